/-
  DERIVED. GIVEN WITH THE SEED: THE CARDS: each row of YtlemndledcmhiaaGreatDoorRows.lean that lists a variable, with what it lists TIED to the program's text (the seventh form; the later family's looks); each row that meets fmt, with fmt's text TOLD by the authors' own Lean function (tested against real Go, not proved from fmt's source: count such statements apart). THE CARD IS WHAT COUNTS. Prove the row's statement (the work); the ties are given (YtlemndledcmhiaaGreatDoorTie.lean); close each card by the builder's one call (the guide's Derived/Test/ToyasCard.lean, 'card_holds'). Laid BY PROGRAM, IN A SANDBOX (cutbox-door.mjs). By AI agents, Wed Nov 11 2026. No macro, syntax, notation, axiom, sorry.
-/
import Derived.Test.YtlemndledcmhiaaGreatDoorRows
import GoSem.ClaimSeven
namespace Go.Proofs.YtlemndledcmhiaaGreatDoor
namespace Rows

/-- THE TIED CARD OF 'bollardlaw17.CatalogMany'. -/
def catalogManyCard : Claim7 := { stood := { row := catalogManyRow, standIns := [], harness := (true, "31c198e633e8f8b357a1fb93dc6abc551759ae68968ec3f13f9f280585afcc66"), looks := true }, kinds := [], alts := [], laidByText := true, laidKinds := [.data, .data, .data, .data, .pinned], laidTests := true, laidLooks := .later }
def CatalogManyCardSaid : Prop := Claim7.holds Tryz.pinned (.plain (OpenSpec.ofChange catalogManySpec)) catalogManyCard

/-- THE TIED CARD OF 'bollardlaw17.CatalogRefuses'. -/
def catalogRefusesCard : Claim7 := { stood := { row := catalogRefusesRow, standIns := [], harness := (true, "31c198e633e8f8b357a1fb93dc6abc551759ae68968ec3f13f9f280585afcc66"), looks := true }, kinds := [], alts := [], laidByText := true, laidKinds := [.data, .data, .data, .data, .pinned], laidTests := true, laidLooks := .later }
def CatalogRefusesCardSaid : Prop := Claim7.holds Tryz.pinned (.plain (OpenSpec.ofChange catalogRefusesSpec)) catalogRefusesCard

/-- THE TIED CARD OF 'bollardlaw17.CatalogNothing'. -/
def catalogNothingCard : Claim7 := { stood := { row := catalogNothingRow, standIns := [], harness := (true, "31c198e633e8f8b357a1fb93dc6abc551759ae68968ec3f13f9f280585afcc66"), looks := true }, kinds := [], alts := [], laidByText := true, laidKinds := [.data, .data, .data, .data, .sentinel, .sentinel, .pinned], laidTests := true, laidLooks := .later }
def CatalogNothingCardSaid : Prop := Claim7.holds Tryz.pinned (.plain (OpenSpec.ofChange catalogNothingSpec)) catalogNothingCard

/-- THE TIED CARD OF 'bollardlaw17.CatalogPlays'. -/
def catalogPlaysCard : Claim7 := { stood := { row := catalogPlaysRow, standIns := [], harness := (true, "31c198e633e8f8b357a1fb93dc6abc551759ae68968ec3f13f9f280585afcc66"), looks := true }, kinds := [], alts := [], laidByText := true, laidKinds := [.data, .data, .data, .data, .sentinel, .sentinel, .pinned], laidTests := true, laidLooks := .later }
def CatalogPlaysCardSaid : Prop := Claim7.holds Tryz.pinned (.plain (OpenSpec.ofChange catalogPlaysSpec)) catalogPlaysCard

/-- THE TIED CARD OF 'bollardlaw17.CatalogCrash'. -/
def catalogCrashCard : Claim7 := { stood := { row := catalogCrashRow, standIns := [], harness := (true, "31c198e633e8f8b357a1fb93dc6abc551759ae68968ec3f13f9f280585afcc66"), looks := true }, kinds := [], alts := [], laidByText := true, laidKinds := [.data, .data, .data, .data, .sentinel, .sentinel, .pinned], laidTests := true, laidLooks := .later }
def CatalogCrashCardSaid : Prop := Claim7.holds Tryz.pinned (.plain (OpenSpec.ofChange catalogCrashSpec)) catalogCrashCard

/-- THE TIED CARD OF 'bollardlaw17.CatalogSweeps'. -/
def catalogSweepsCard : Claim7 := { stood := { row := catalogSweepsRow, standIns := [], harness := (true, "31c198e633e8f8b357a1fb93dc6abc551759ae68968ec3f13f9f280585afcc66"), looks := true }, kinds := [], alts := [], laidByText := true, laidKinds := [.data, .data, .data, .data, .sentinel, .sentinel, .pinned], laidTests := true, laidLooks := .later }
def CatalogSweepsCardSaid : Prop := Claim7.holds Tryz.pinned (.plain (OpenSpec.ofChange catalogSweepsSpec)) catalogSweepsCard

/-- THE SECOND FORM's CARD OF 'bollardlaw17.CatalogMany'. -/
def catalogManyUptoCard : Claim7 := { stood := { row := catalogManyUptoRow, standIns := [], harness := (true, "31c198e633e8f8b357a1fb93dc6abc551759ae68968ec3f13f9f280585afcc66"), looks := true }, kinds := [], alts := [], laidByText := true, laidKinds := [.data, .data, .data, .data, .pinned], laidTests := true, laidLooks := .later }
def CatalogManyUptoCardSaid : Prop := Claim7.holds Tryz.pinned (.plain (OpenSpec.upto catalogManySpec)) catalogManyUptoCard

/-- THE SECOND FORM's CARD OF 'bollardlaw17.CatalogRefuses'. -/
def catalogRefusesUptoCard : Claim7 := { stood := { row := catalogRefusesUptoRow, standIns := [], harness := (true, "31c198e633e8f8b357a1fb93dc6abc551759ae68968ec3f13f9f280585afcc66"), looks := true }, kinds := [], alts := [], laidByText := true, laidKinds := [.data, .data, .data, .data, .pinned], laidTests := true, laidLooks := .later }
def CatalogRefusesUptoCardSaid : Prop := Claim7.holds Tryz.pinned (.plain (OpenSpec.upto catalogRefusesSpec)) catalogRefusesUptoCard

/-- THE SECOND FORM's CARD OF 'bollardlaw17.CatalogNothing'. -/
def catalogNothingUptoCard : Claim7 := { stood := { row := catalogNothingUptoRow, standIns := [], harness := (true, "31c198e633e8f8b357a1fb93dc6abc551759ae68968ec3f13f9f280585afcc66"), looks := true }, kinds := [], alts := [], laidByText := true, laidKinds := [.data, .data, .data, .data, .sentinel, .sentinel, .pinned], laidTests := true, laidLooks := .later }
def CatalogNothingUptoCardSaid : Prop := Claim7.holds Tryz.pinned (.plain (OpenSpec.upto catalogNothingSpec)) catalogNothingUptoCard

/-- THE SECOND FORM's CARD OF 'bollardlaw17.CatalogPlays'. -/
def catalogPlaysUptoCard : Claim7 := { stood := { row := catalogPlaysUptoRow, standIns := [], harness := (true, "31c198e633e8f8b357a1fb93dc6abc551759ae68968ec3f13f9f280585afcc66"), looks := true }, kinds := [], alts := [], laidByText := true, laidKinds := [.data, .data, .data, .data, .sentinel, .sentinel, .pinned], laidTests := true, laidLooks := .later }
def CatalogPlaysUptoCardSaid : Prop := Claim7.holds Tryz.pinned (.plain (OpenSpec.upto catalogPlaysSpec)) catalogPlaysUptoCard

/-- THE SECOND FORM's CARD OF 'bollardlaw17.CatalogCrash'. -/
def catalogCrashUptoCard : Claim7 := { stood := { row := catalogCrashUptoRow, standIns := [], harness := (true, "31c198e633e8f8b357a1fb93dc6abc551759ae68968ec3f13f9f280585afcc66"), looks := true }, kinds := [], alts := [], laidByText := true, laidKinds := [.data, .data, .data, .data, .sentinel, .sentinel, .pinned], laidTests := true, laidLooks := .later }
def CatalogCrashUptoCardSaid : Prop := Claim7.holds Tryz.pinned (.plain (OpenSpec.upto catalogCrashSpec)) catalogCrashUptoCard

/-- THE SECOND FORM's CARD OF 'bollardlaw17.CatalogSweeps'. -/
def catalogSweepsUptoCard : Claim7 := { stood := { row := catalogSweepsUptoRow, standIns := [], harness := (true, "31c198e633e8f8b357a1fb93dc6abc551759ae68968ec3f13f9f280585afcc66"), looks := true }, kinds := [], alts := [], laidByText := true, laidKinds := [.data, .data, .data, .data, .sentinel, .sentinel, .pinned], laidTests := true, laidLooks := .later }
def CatalogSweepsUptoCardSaid : Prop := Claim7.holds Tryz.pinned (.plain (OpenSpec.upto catalogSweepsSpec)) catalogSweepsUptoCard
end Rows
end Go.Proofs.YtlemndledcmhiaaGreatDoor
