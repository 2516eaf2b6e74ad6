/-
  DERIVED. GIVEN WITH THE SEED: THE CARDS: each row of YtppjphghlclklaaGreatDoorRows.lean that lists a variable, with what it lists TIED to the program's text (the seventh form; the later family's looks); each row that meets fmt, with fmt's text TOLD by the authors' own Lean function (tested against real Go, not proved from fmt's source: count such statements apart). THE CARD IS WHAT COUNTS. Prove the row's statement (the work); the ties are given (YtppjphghlclklaaGreatDoorTie.lean); close each card by the builder's one call (the guide's Derived/Test/ToyasCard.lean, 'card_holds'). Laid BY PROGRAM, IN A SANDBOX (cutbox-door.mjs). By AI agents, Wed Nov 11 2026. No macro, syntax, notation, axiom, sorry.
-/
import Derived.Test.YtppjphghlclklaaGreatDoorRows
import GoSem.ClaimSeven
namespace Go.Proofs.YtppjphghlclklaaGreatDoor
namespace Rows

/-- THE TIED CARD OF 'coppicelaw8.PageEncodes'. -/
def pageEncodesCard : Claim7 := { stood := { row := pageEncodesRow, standIns := [], harness := (true, "425823779e57a324544761d67fe7f6085f9c338ea8d28a1501f1e0f7db87508a"), looks := false }, kinds := [], alts := [], laidByText := true, laidKinds := [.data, .data, .data], laidTests := true, laidLooks := .later }
def PageEncodesCardSaid : Prop := Claim7.holds Tryz.pinned (.plain (OpenSpec.ofChange pageEncodesSpec)) pageEncodesCard

/-- THE TIED CARD OF 'coppicelaw8.PagePlace'. -/
def pagePlaceCard : Claim7 := { stood := { row := pagePlaceRow, standIns := [], harness := (true, "425823779e57a324544761d67fe7f6085f9c338ea8d28a1501f1e0f7db87508a"), looks := false }, kinds := [], alts := [], laidByText := true, laidKinds := [.data, .data, .data], laidTests := true, laidLooks := .later }
def PagePlaceCardSaid : Prop := Claim7.holds Tryz.pinned (.plain (OpenSpec.ofChange pagePlaceSpec)) pagePlaceCard

/-- THE TIED CARD OF 'coppicelaw8.PageDecodes'. -/
def pageDecodesCard : Claim7 := { stood := { row := pageDecodesRow, standIns := [], harness := (true, "425823779e57a324544761d67fe7f6085f9c338ea8d28a1501f1e0f7db87508a"), looks := false }, kinds := [], alts := [], laidByText := true, laidKinds := [.data, .data, .data], laidTests := true, laidLooks := .later }
def PageDecodesCardSaid : Prop := Claim7.holds Tryz.pinned (.plain (OpenSpec.ofChange pageDecodesSpec)) pageDecodesCard

/-- THE TIED CARD OF 'coppicelaw8.PageBack'. -/
def pageBackCard : Claim7 := { stood := { row := pageBackRow, standIns := [], harness := (true, "425823779e57a324544761d67fe7f6085f9c338ea8d28a1501f1e0f7db87508a"), looks := false }, kinds := [], alts := [], laidByText := true, laidKinds := [.data, .data, .data], laidTests := true, laidLooks := .later }
def PageBackCardSaid : Prop := Claim7.holds Tryz.pinned (.plain (OpenSpec.ofChange pageBackSpec)) pageBackCard

/-- THE TIED CARD OF 'coppicelaw8.PageSpoilt'. -/
def pageSpoiltCard : Claim7 := { stood := { row := pageSpoiltRow, standIns := [], harness := (true, "425823779e57a324544761d67fe7f6085f9c338ea8d28a1501f1e0f7db87508a"), looks := false }, kinds := [], alts := [], laidByText := true, laidKinds := [.data, .data, .data], laidTests := true, laidLooks := .later }
def PageSpoiltCardSaid : Prop := Claim7.holds Tryz.pinned (.plain (OpenSpec.ofChange pageSpoiltSpec)) pageSpoiltCard

/-- THE TIED CARD OF 'coppicelaw8.PageOwns'. -/
def pageOwnsCard : Claim7 := { stood := { row := pageOwnsRow, standIns := [], harness := (true, "425823779e57a324544761d67fe7f6085f9c338ea8d28a1501f1e0f7db87508a"), looks := false }, kinds := [], alts := [], laidByText := true, laidKinds := [.data, .data, .data, .data, .data, .data], laidTests := true, laidLooks := .later }
def PageOwnsCardSaid : Prop := Claim7.holds Tryz.pinned (.plain (OpenSpec.ofChange pageOwnsSpec)) pageOwnsCard

/-- THE SECOND FORM's CARD OF 'coppicelaw8.PageEncodes'. -/
def pageEncodesUptoCard : Claim7 := { stood := { row := pageEncodesUptoRow, standIns := [], harness := (true, "425823779e57a324544761d67fe7f6085f9c338ea8d28a1501f1e0f7db87508a"), looks := false }, kinds := [], alts := [], laidByText := true, laidKinds := [.data, .data, .data], laidTests := true, laidLooks := .later }
def PageEncodesUptoCardSaid : Prop := Claim7.holds Tryz.pinned (.plain (OpenSpec.upto pageEncodesSpec)) pageEncodesUptoCard

/-- THE SECOND FORM's CARD OF 'coppicelaw8.PagePlace'. -/
def pagePlaceUptoCard : Claim7 := { stood := { row := pagePlaceUptoRow, standIns := [], harness := (true, "425823779e57a324544761d67fe7f6085f9c338ea8d28a1501f1e0f7db87508a"), looks := false }, kinds := [], alts := [], laidByText := true, laidKinds := [.data, .data, .data], laidTests := true, laidLooks := .later }
def PagePlaceUptoCardSaid : Prop := Claim7.holds Tryz.pinned (.plain (OpenSpec.upto pagePlaceSpec)) pagePlaceUptoCard

/-- THE SECOND FORM's CARD OF 'coppicelaw8.PageDecodes'. -/
def pageDecodesUptoCard : Claim7 := { stood := { row := pageDecodesUptoRow, standIns := [], harness := (true, "425823779e57a324544761d67fe7f6085f9c338ea8d28a1501f1e0f7db87508a"), looks := false }, kinds := [], alts := [], laidByText := true, laidKinds := [.data, .data, .data], laidTests := true, laidLooks := .later }
def PageDecodesUptoCardSaid : Prop := Claim7.holds Tryz.pinned (.plain (OpenSpec.upto pageDecodesSpec)) pageDecodesUptoCard

/-- THE SECOND FORM's CARD OF 'coppicelaw8.PageBack'. -/
def pageBackUptoCard : Claim7 := { stood := { row := pageBackUptoRow, standIns := [], harness := (true, "425823779e57a324544761d67fe7f6085f9c338ea8d28a1501f1e0f7db87508a"), looks := false }, kinds := [], alts := [], laidByText := true, laidKinds := [.data, .data, .data], laidTests := true, laidLooks := .later }
def PageBackUptoCardSaid : Prop := Claim7.holds Tryz.pinned (.plain (OpenSpec.upto pageBackSpec)) pageBackUptoCard

/-- THE SECOND FORM's CARD OF 'coppicelaw8.PageSpoilt'. -/
def pageSpoiltUptoCard : Claim7 := { stood := { row := pageSpoiltUptoRow, standIns := [], harness := (true, "425823779e57a324544761d67fe7f6085f9c338ea8d28a1501f1e0f7db87508a"), looks := false }, kinds := [], alts := [], laidByText := true, laidKinds := [.data, .data, .data], laidTests := true, laidLooks := .later }
def PageSpoiltUptoCardSaid : Prop := Claim7.holds Tryz.pinned (.plain (OpenSpec.upto pageSpoiltSpec)) pageSpoiltUptoCard

/-- THE SECOND FORM's CARD OF 'coppicelaw8.PageOwns'. -/
def pageOwnsUptoCard : Claim7 := { stood := { row := pageOwnsUptoRow, standIns := [], harness := (true, "425823779e57a324544761d67fe7f6085f9c338ea8d28a1501f1e0f7db87508a"), looks := false }, kinds := [], alts := [], laidByText := true, laidKinds := [.data, .data, .data, .data, .data, .data], laidTests := true, laidLooks := .later }
def PageOwnsUptoCardSaid : Prop := Claim7.holds Tryz.pinned (.plain (OpenSpec.upto pageOwnsSpec)) pageOwnsUptoCard
end Rows
end Go.Proofs.YtppjphghlclklaaGreatDoor
