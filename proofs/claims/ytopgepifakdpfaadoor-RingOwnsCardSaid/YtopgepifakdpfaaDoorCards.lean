/-
  DERIVED. GIVEN WITH THE SEED: THE CARDS: each row of YtopgepifakdpfaaDoorRows.lean that lists a variable, with what it lists TIED to the program's text (the seventh form; the later family's looks); each row that meets fmt, with fmt's text TOLD by the authors' own Lean function (tested against real Go, not proved from fmt's source: count such statements apart). THE CARD IS WHAT COUNTS. Prove the row's statement (the work); the ties are given (YtopgepifakdpfaaDoorTie.lean); close each card by the builder's one call (the guide's Derived/Test/ToyasCard.lean, 'card_holds'). Laid BY PROGRAM, IN A SANDBOX (cutbox-door.mjs). By AI agents, Wed Nov 11 2026. No macro, syntax, notation, axiom, sorry.
-/
import Derived.Test.YtopgepifakdpfaaDoorRows
import GoSem.ClaimSeven
namespace Go.Proofs.YtopgepifakdpfaaDoor
namespace Rows

/-- THE TIED CARD OF 'meridianlaw10.RingOrder'. -/
def ringOrderCard : Claim7 := { stood := { row := ringOrderRow, standIns := [], harness := (true, "200a1ee11fb33bf7162ec5fe1f598fb9c2ebdbbdb7ad2ea9066e7f1787c07771"), looks := false }, kinds := [], alts := [], laidByText := true, laidKinds := [.data, .data, .data], laidTests := true, laidLooks := .later }
def RingOrderCardSaid : Prop := Claim7.holds Tryd.pinned (.plain (OpenSpec.ofChange ringOrderSpec)) ringOrderCard

/-- THE TIED CARD OF 'meridianlaw10.RingAll'. -/
def ringAllCard : Claim7 := { stood := { row := ringAllRow, standIns := [], harness := (true, "200a1ee11fb33bf7162ec5fe1f598fb9c2ebdbbdb7ad2ea9066e7f1787c07771"), looks := false }, kinds := [], alts := [], laidByText := true, laidKinds := [.data, .data, .data], laidTests := true, laidLooks := .later }
def RingAllCardSaid : Prop := Claim7.holds Tryd.pinned (.plain (OpenSpec.ofChange ringAllSpec)) ringAllCard

/-- THE TIED CARD OF 'meridianlaw10.RingOwns'. -/
def ringOwnsCard : Claim7 := { stood := { row := ringOwnsRow, standIns := [], harness := (true, "200a1ee11fb33bf7162ec5fe1f598fb9c2ebdbbdb7ad2ea9066e7f1787c07771"), looks := false }, kinds := [], alts := [], laidByText := true, laidKinds := [.data, .data, .data], laidTests := true, laidLooks := .later }
def RingOwnsCardSaid : Prop := Claim7.holds Tryd.pinned (.plain (OpenSpec.ofChange ringOwnsSpec)) ringOwnsCard

/-- THE TIED CARD OF 'meridianlaw10.RingMoves'. -/
def ringMovesCard : Claim7 := { stood := { row := ringMovesRow, standIns := [], harness := (true, "200a1ee11fb33bf7162ec5fe1f598fb9c2ebdbbdb7ad2ea9066e7f1787c07771"), looks := false }, kinds := [], alts := [], laidByText := true, laidKinds := [.data, .data, .data], laidTests := true, laidLooks := .later }
def RingMovesCardSaid : Prop := Claim7.holds Tryd.pinned (.plain (OpenSpec.ofChange ringMovesSpec)) ringMovesCard

/-- THE TIED CARD OF 'meridianlaw10.RingBack'. -/
def ringBackCard : Claim7 := { stood := { row := ringBackRow, standIns := [], harness := (true, "200a1ee11fb33bf7162ec5fe1f598fb9c2ebdbbdb7ad2ea9066e7f1787c07771"), looks := false }, kinds := [], alts := [], laidByText := true, laidKinds := [.data, .data, .data], laidTests := true, laidLooks := .later }
def RingBackCardSaid : Prop := Claim7.holds Tryd.pinned (.plain (OpenSpec.ofChange ringBackSpec)) ringBackCard

/-- THE SECOND FORM's CARD OF 'meridianlaw10.RingOrder'. -/
def ringOrderUptoCard : Claim7 := { stood := { row := ringOrderUptoRow, standIns := [], harness := (true, "200a1ee11fb33bf7162ec5fe1f598fb9c2ebdbbdb7ad2ea9066e7f1787c07771"), looks := false }, kinds := [], alts := [], laidByText := true, laidKinds := [.data, .data, .data], laidTests := true, laidLooks := .later }
def RingOrderUptoCardSaid : Prop := Claim7.holds Tryd.pinned (.plain (OpenSpec.upto ringOrderSpec)) ringOrderUptoCard

/-- THE SECOND FORM's CARD OF 'meridianlaw10.RingAll'. -/
def ringAllUptoCard : Claim7 := { stood := { row := ringAllUptoRow, standIns := [], harness := (true, "200a1ee11fb33bf7162ec5fe1f598fb9c2ebdbbdb7ad2ea9066e7f1787c07771"), looks := false }, kinds := [], alts := [], laidByText := true, laidKinds := [.data, .data, .data], laidTests := true, laidLooks := .later }
def RingAllUptoCardSaid : Prop := Claim7.holds Tryd.pinned (.plain (OpenSpec.upto ringAllSpec)) ringAllUptoCard

/-- THE SECOND FORM's CARD OF 'meridianlaw10.RingOwns'. -/
def ringOwnsUptoCard : Claim7 := { stood := { row := ringOwnsUptoRow, standIns := [], harness := (true, "200a1ee11fb33bf7162ec5fe1f598fb9c2ebdbbdb7ad2ea9066e7f1787c07771"), looks := false }, kinds := [], alts := [], laidByText := true, laidKinds := [.data, .data, .data], laidTests := true, laidLooks := .later }
def RingOwnsUptoCardSaid : Prop := Claim7.holds Tryd.pinned (.plain (OpenSpec.upto ringOwnsSpec)) ringOwnsUptoCard

/-- THE SECOND FORM's CARD OF 'meridianlaw10.RingMoves'. -/
def ringMovesUptoCard : Claim7 := { stood := { row := ringMovesUptoRow, standIns := [], harness := (true, "200a1ee11fb33bf7162ec5fe1f598fb9c2ebdbbdb7ad2ea9066e7f1787c07771"), looks := false }, kinds := [], alts := [], laidByText := true, laidKinds := [.data, .data, .data], laidTests := true, laidLooks := .later }
def RingMovesUptoCardSaid : Prop := Claim7.holds Tryd.pinned (.plain (OpenSpec.upto ringMovesSpec)) ringMovesUptoCard

/-- THE SECOND FORM's CARD OF 'meridianlaw10.RingBack'. -/
def ringBackUptoCard : Claim7 := { stood := { row := ringBackUptoRow, standIns := [], harness := (true, "200a1ee11fb33bf7162ec5fe1f598fb9c2ebdbbdb7ad2ea9066e7f1787c07771"), looks := false }, kinds := [], alts := [], laidByText := true, laidKinds := [.data, .data, .data], laidTests := true, laidLooks := .later }
def RingBackUptoCardSaid : Prop := Claim7.holds Tryd.pinned (.plain (OpenSpec.upto ringBackSpec)) ringBackUptoCard
end Rows
end Go.Proofs.YtopgepifakdpfaaDoor
