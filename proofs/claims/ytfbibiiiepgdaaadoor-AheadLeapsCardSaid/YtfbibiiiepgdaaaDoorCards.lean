/-
  DERIVED. GIVEN WITH THE SEED: THE CARDS: each row of YtfbibiiiepgdaaaDoorRows.lean that lists a variable, with what it lists TIED to the program's text (the seventh form; the later family's looks); each row that meets fmt, with fmt's text TOLD by the authors' own Lean function (tested against real Go, not proved from fmt's source: count such statements apart). THE CARD IS WHAT COUNTS. Prove the row's statement (the work); the ties are given (YtfbibiiiepgdaaaDoorTie.lean); close each card by the builder's one call (the guide's Derived/Test/ToyasCard.lean, 'card_holds'). Laid BY PROGRAM, IN A SANDBOX (cutbox-door.mjs). By AI agents, Wed Nov 11 2026. No macro, syntax, notation, axiom, sorry.
-/
import Derived.Test.YtfbibiiiepgdaaaDoorRows
import GoSem.ClaimSeven
namespace Go.Proofs.YtfbibiiiepgdaaaDoor
namespace Rows

/-- THE TIED CARD OF 'trunnionlaw22.AheadServes'. -/
def aheadServesCard : Claim7 := { stood := { row := aheadServesRow, standIns := [], harness := (true, "4547f18a67460efd5bc783346d02fb4bd3bc53b033c0e50e13a2f1c7468029f4"), looks := false }, kinds := [], alts := [], laidByText := true, laidKinds := [.data], laidTests := true, laidLooks := .later }
def AheadServesCardSaid : Prop := Claim7.holds Tryd.pinned (.plain (OpenSpec.ofChange aheadServesSpec)) aheadServesCard

/-- THE TIED CARD OF 'trunnionlaw22.AheadOnce'. -/
def aheadOnceCard : Claim7 := { stood := { row := aheadOnceRow, standIns := [], harness := (true, "4547f18a67460efd5bc783346d02fb4bd3bc53b033c0e50e13a2f1c7468029f4"), looks := false }, kinds := [], alts := [], laidByText := true, laidKinds := [.data], laidTests := true, laidLooks := .later }
def AheadOnceCardSaid : Prop := Claim7.holds Tryd.pinned (.plain (OpenSpec.ofChange aheadOnceSpec)) aheadOnceCard

/-- THE TIED CARD OF 'trunnionlaw22.AheadPlays'. -/
def aheadPlaysCard : Claim7 := { stood := { row := aheadPlaysRow, standIns := [], harness := (true, "4547f18a67460efd5bc783346d02fb4bd3bc53b033c0e50e13a2f1c7468029f4"), looks := false }, kinds := [], alts := [], laidByText := true, laidKinds := [.data], laidTests := true, laidLooks := .later }
def AheadPlaysCardSaid : Prop := Claim7.holds Tryd.pinned (.plain (OpenSpec.ofChange aheadPlaysSpec)) aheadPlaysCard

/-- THE TIED CARD OF 'trunnionlaw22.AheadLeaps'. -/
def aheadLeapsCard : Claim7 := { stood := { row := aheadLeapsRow, standIns := [], harness := (true, "4547f18a67460efd5bc783346d02fb4bd3bc53b033c0e50e13a2f1c7468029f4"), looks := false }, kinds := [], alts := [], laidByText := true, laidKinds := [.data], laidTests := true, laidLooks := .later }
def AheadLeapsCardSaid : Prop := Claim7.holds Tryd.pinned (.plain (OpenSpec.ofChange aheadLeapsSpec)) aheadLeapsCard

/-- THE SECOND FORM's CARD OF 'trunnionlaw22.AheadServes'. -/
def aheadServesUptoCard : Claim7 := { stood := { row := aheadServesUptoRow, standIns := [], harness := (true, "4547f18a67460efd5bc783346d02fb4bd3bc53b033c0e50e13a2f1c7468029f4"), looks := false }, kinds := [], alts := [], laidByText := true, laidKinds := [.data], laidTests := true, laidLooks := .later }
def AheadServesUptoCardSaid : Prop := Claim7.holds Tryd.pinned (.plain (OpenSpec.upto aheadServesSpec)) aheadServesUptoCard

/-- THE SECOND FORM's CARD OF 'trunnionlaw22.AheadOnce'. -/
def aheadOnceUptoCard : Claim7 := { stood := { row := aheadOnceUptoRow, standIns := [], harness := (true, "4547f18a67460efd5bc783346d02fb4bd3bc53b033c0e50e13a2f1c7468029f4"), looks := false }, kinds := [], alts := [], laidByText := true, laidKinds := [.data], laidTests := true, laidLooks := .later }
def AheadOnceUptoCardSaid : Prop := Claim7.holds Tryd.pinned (.plain (OpenSpec.upto aheadOnceSpec)) aheadOnceUptoCard

/-- THE SECOND FORM's CARD OF 'trunnionlaw22.AheadPlays'. -/
def aheadPlaysUptoCard : Claim7 := { stood := { row := aheadPlaysUptoRow, standIns := [], harness := (true, "4547f18a67460efd5bc783346d02fb4bd3bc53b033c0e50e13a2f1c7468029f4"), looks := false }, kinds := [], alts := [], laidByText := true, laidKinds := [.data], laidTests := true, laidLooks := .later }
def AheadPlaysUptoCardSaid : Prop := Claim7.holds Tryd.pinned (.plain (OpenSpec.upto aheadPlaysSpec)) aheadPlaysUptoCard

/-- THE SECOND FORM's CARD OF 'trunnionlaw22.AheadLeaps'. -/
def aheadLeapsUptoCard : Claim7 := { stood := { row := aheadLeapsUptoRow, standIns := [], harness := (true, "4547f18a67460efd5bc783346d02fb4bd3bc53b033c0e50e13a2f1c7468029f4"), looks := false }, kinds := [], alts := [], laidByText := true, laidKinds := [.data], laidTests := true, laidLooks := .later }
def AheadLeapsUptoCardSaid : Prop := Claim7.holds Tryd.pinned (.plain (OpenSpec.upto aheadLeapsSpec)) aheadLeapsUptoCard
end Rows
end Go.Proofs.YtfbibiiiepgdaaaDoor
