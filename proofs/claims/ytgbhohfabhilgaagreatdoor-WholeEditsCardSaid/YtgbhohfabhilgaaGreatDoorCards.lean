/-
  DERIVED. GIVEN WITH THE SEED: THE CARDS: each row of YtgbhohfabhilgaaGreatDoorRows.lean that lists a variable, with what it lists TIED to the program's text (the seventh form; the later family's looks); each row that meets fmt, with fmt's text TOLD by the authors' own Lean function (tested against real Go, not proved from fmt's source: count such statements apart). THE CARD IS WHAT COUNTS. Prove the row's statement (the work); the ties are given (YtgbhohfabhilgaaGreatDoorTie.lean); close each card by the builder's one call (the guide's Derived/Test/ToyasCard.lean, 'card_holds'). Laid BY PROGRAM, IN A SANDBOX (cutbox-door.mjs). By AI agents, Wed Nov 11 2026. No macro, syntax, notation, axiom, sorry.
-/
import Derived.Test.YtgbhohfabhilgaaGreatDoorRows
import GoSem.ClaimSeven
namespace Go.Proofs.YtgbhohfabhilgaaGreatDoor
namespace Rows

/-- THE TIED CARD OF 'evergreentop.WholeSeams'. -/
def wholeSeamsCard : Claim7 := { stood := { row := wholeSeamsRow, standIns := [], harness := (true, "74b4870b50e075a54fe619d530512f60bac0e18dfc4d04e93ec80595b2cb9047"), looks := false }, kinds := [], alts := [], laidByText := true, laidKinds := [.data], laidTests := true, laidLooks := .later }
def WholeSeamsCardSaid : Prop := Claim7.holds Tryz.pinned (.plain (OpenSpec.ofChange wholeSeamsSpec)) wholeSeamsCard

/-- THE TIED CARD OF 'evergreentop.WholeReached'. -/
def wholeReachedCard : Claim7 := { stood := { row := wholeReachedRow, standIns := [], harness := (true, "74b4870b50e075a54fe619d530512f60bac0e18dfc4d04e93ec80595b2cb9047"), looks := false }, kinds := [], alts := [], laidByText := true, laidKinds := [.data], laidTests := true, laidLooks := .later }
def WholeReachedCardSaid : Prop := Claim7.holds Tryz.pinned (.plain (OpenSpec.ofChange wholeReachedSpec)) wholeReachedCard

/-- THE TIED CARD OF 'evergreentop.WholePatches'. -/
def wholePatchesCard : Claim7 := { stood := { row := wholePatchesRow, standIns := [], harness := (true, "74b4870b50e075a54fe619d530512f60bac0e18dfc4d04e93ec80595b2cb9047"), looks := false }, kinds := [], alts := [], laidByText := true, laidKinds := [.data], laidTests := true, laidLooks := .later }
def WholePatchesCardSaid : Prop := Claim7.holds Tryz.pinned (.plain (OpenSpec.ofChange wholePatchesSpec)) wholePatchesCard

/-- THE TIED CARD OF 'evergreentop.WholeMerges'. -/
def wholeMergesCard : Claim7 := { stood := { row := wholeMergesRow, standIns := [], harness := (true, "74b4870b50e075a54fe619d530512f60bac0e18dfc4d04e93ec80595b2cb9047"), looks := false }, kinds := [], alts := [], laidByText := true, laidKinds := [.data], laidTests := true, laidLooks := .later }
def WholeMergesCardSaid : Prop := Claim7.holds Tryz.pinned (.plain (OpenSpec.ofChange wholeMergesSpec)) wholeMergesCard

/-- THE TIED CARD OF 'evergreentop.WholeEdits'. -/
def wholeEditsCard : Claim7 := { stood := { row := wholeEditsRow, standIns := [], harness := (true, "74b4870b50e075a54fe619d530512f60bac0e18dfc4d04e93ec80595b2cb9047"), looks := false }, kinds := [], alts := [], laidByText := true, laidKinds := [.data], laidTests := true, laidLooks := .later }
def WholeEditsCardSaid : Prop := Claim7.holds Tryz.pinned (.plain (OpenSpec.ofChange wholeEditsSpec)) wholeEditsCard

/-- THE TIED CARD OF 'evergreentop.WholeFar'. -/
def wholeFarCard : Claim7 := { stood := { row := wholeFarRow, standIns := [], harness := (true, "74b4870b50e075a54fe619d530512f60bac0e18dfc4d04e93ec80595b2cb9047"), looks := false }, kinds := [], alts := [], laidByText := true, laidKinds := [.data], laidTests := true, laidLooks := .later }
def WholeFarCardSaid : Prop := Claim7.holds Tryz.pinned (.plain (OpenSpec.ofChange wholeFarSpec)) wholeFarCard

/-- THE SECOND FORM's CARD OF 'evergreentop.WholeSeams'. -/
def wholeSeamsUptoCard : Claim7 := { stood := { row := wholeSeamsUptoRow, standIns := [], harness := (true, "74b4870b50e075a54fe619d530512f60bac0e18dfc4d04e93ec80595b2cb9047"), looks := false }, kinds := [], alts := [], laidByText := true, laidKinds := [.data], laidTests := true, laidLooks := .later }
def WholeSeamsUptoCardSaid : Prop := Claim7.holds Tryz.pinned (.plain (OpenSpec.upto wholeSeamsSpec)) wholeSeamsUptoCard

/-- THE SECOND FORM's CARD OF 'evergreentop.WholeReached'. -/
def wholeReachedUptoCard : Claim7 := { stood := { row := wholeReachedUptoRow, standIns := [], harness := (true, "74b4870b50e075a54fe619d530512f60bac0e18dfc4d04e93ec80595b2cb9047"), looks := false }, kinds := [], alts := [], laidByText := true, laidKinds := [.data], laidTests := true, laidLooks := .later }
def WholeReachedUptoCardSaid : Prop := Claim7.holds Tryz.pinned (.plain (OpenSpec.upto wholeReachedSpec)) wholeReachedUptoCard

/-- THE SECOND FORM's CARD OF 'evergreentop.WholePatches'. -/
def wholePatchesUptoCard : Claim7 := { stood := { row := wholePatchesUptoRow, standIns := [], harness := (true, "74b4870b50e075a54fe619d530512f60bac0e18dfc4d04e93ec80595b2cb9047"), looks := false }, kinds := [], alts := [], laidByText := true, laidKinds := [.data], laidTests := true, laidLooks := .later }
def WholePatchesUptoCardSaid : Prop := Claim7.holds Tryz.pinned (.plain (OpenSpec.upto wholePatchesSpec)) wholePatchesUptoCard

/-- THE SECOND FORM's CARD OF 'evergreentop.WholeMerges'. -/
def wholeMergesUptoCard : Claim7 := { stood := { row := wholeMergesUptoRow, standIns := [], harness := (true, "74b4870b50e075a54fe619d530512f60bac0e18dfc4d04e93ec80595b2cb9047"), looks := false }, kinds := [], alts := [], laidByText := true, laidKinds := [.data], laidTests := true, laidLooks := .later }
def WholeMergesUptoCardSaid : Prop := Claim7.holds Tryz.pinned (.plain (OpenSpec.upto wholeMergesSpec)) wholeMergesUptoCard

/-- THE SECOND FORM's CARD OF 'evergreentop.WholeEdits'. -/
def wholeEditsUptoCard : Claim7 := { stood := { row := wholeEditsUptoRow, standIns := [], harness := (true, "74b4870b50e075a54fe619d530512f60bac0e18dfc4d04e93ec80595b2cb9047"), looks := false }, kinds := [], alts := [], laidByText := true, laidKinds := [.data], laidTests := true, laidLooks := .later }
def WholeEditsUptoCardSaid : Prop := Claim7.holds Tryz.pinned (.plain (OpenSpec.upto wholeEditsSpec)) wholeEditsUptoCard

/-- THE SECOND FORM's CARD OF 'evergreentop.WholeFar'. -/
def wholeFarUptoCard : Claim7 := { stood := { row := wholeFarUptoRow, standIns := [], harness := (true, "74b4870b50e075a54fe619d530512f60bac0e18dfc4d04e93ec80595b2cb9047"), looks := false }, kinds := [], alts := [], laidByText := true, laidKinds := [.data], laidTests := true, laidLooks := .later }
def WholeFarUptoCardSaid : Prop := Claim7.holds Tryz.pinned (.plain (OpenSpec.upto wholeFarSpec)) wholeFarUptoCard
end Rows
end Go.Proofs.YtgbhohfabhilgaaGreatDoor
