/-
  DERIVED. GIVEN WITH THE SEED: THE CARDS: each row of YtmmffeldlhofiaaGreatDoorRows.lean that lists a variable, with what it lists TIED to the program's text (the seventh form; the later family's looks); each row that meets fmt, with fmt's text TOLD by the authors' own Lean function (tested against real Go, not proved from fmt's source: count such statements apart). THE CARD IS WHAT COUNTS. Prove the row's statement (the work); the ties are given (YtmmffeldlhofiaaGreatDoorTie.lean); close each card by the builder's one call (the guide's Derived/Test/ToyasCard.lean, 'card_holds'). Laid BY PROGRAM, IN A SANDBOX (cutbox-door.mjs). By AI agents, Wed Nov 11 2026. No macro, syntax, notation, axiom, sorry.
-/
import Derived.Test.YtmmffeldlhofiaaGreatDoorRows
import GoSem.ClaimSeven
namespace Go.Proofs.YtmmffeldlhofiaaGreatDoor
namespace Rows

/-- THE TIED CARD OF 'punnetlaw36.SketchEdges'. -/
def sketchEdgesCard : Claim7 := { stood := { row := sketchEdgesRow, standIns := [], harness := (true, "3439b21c2705567fdab7559c3fd75ee622a5eb7bc8fa6fda3970b5f8bf3c4a10"), looks := false }, kinds := [], alts := [], laidByText := true, laidKinds := [.data, .pinned], laidTests := true, laidLooks := .later }
def SketchEdgesCardSaid : Prop := Claim7.holds Tryz.pinned (.plain (OpenSpec.ofChange sketchEdgesSpec)) sketchEdgesCard

/-- THE TIED CARD OF 'punnetlaw36.SketchLenses'. -/
def sketchLensesCard : Claim7 := { stood := { row := sketchLensesRow, standIns := [], harness := (true, "3439b21c2705567fdab7559c3fd75ee622a5eb7bc8fa6fda3970b5f8bf3c4a10"), looks := false }, kinds := [], alts := [], laidByText := true, laidKinds := [.data, .pinned], laidTests := true, laidLooks := .later }
def SketchLensesCardSaid : Prop := Claim7.holds Tryz.pinned (.plain (OpenSpec.ofChange sketchLensesSpec)) sketchLensesCard

/-- THE TIED CARD OF 'punnetlaw36.SketchFields'. -/
def sketchFieldsCard : Claim7 := { stood := { row := sketchFieldsRow, standIns := [], harness := (true, "3439b21c2705567fdab7559c3fd75ee622a5eb7bc8fa6fda3970b5f8bf3c4a10"), looks := false }, kinds := [], alts := [], laidByText := true, laidKinds := [.data, .pinned], laidTests := true, laidLooks := .later }
def SketchFieldsCardSaid : Prop := Claim7.holds Tryz.pinned (.plain (OpenSpec.ofChange sketchFieldsSpec)) sketchFieldsCard

/-- THE TIED CARD OF 'punnetlaw36.SketchSchemas'. -/
def sketchSchemasCard : Claim7 := { stood := { row := sketchSchemasRow, standIns := [], harness := (true, "3439b21c2705567fdab7559c3fd75ee622a5eb7bc8fa6fda3970b5f8bf3c4a10"), looks := false }, kinds := [], alts := [], laidByText := true, laidKinds := [.data, .pinned], laidTests := true, laidLooks := .later }
def SketchSchemasCardSaid : Prop := Claim7.holds Tryz.pinned (.plain (OpenSpec.ofChange sketchSchemasSpec)) sketchSchemasCard

/-- THE TIED CARD OF 'punnetlaw36.SketchTrees'. -/
def sketchTreesCard : Claim7 := { stood := { row := sketchTreesRow, standIns := [], harness := (true, "3439b21c2705567fdab7559c3fd75ee622a5eb7bc8fa6fda3970b5f8bf3c4a10"), looks := false }, kinds := [], alts := [], laidByText := true, laidKinds := [.data, .pinned], laidTests := true, laidLooks := .later }
def SketchTreesCardSaid : Prop := Claim7.holds Tryz.pinned (.plain (OpenSpec.ofChange sketchTreesSpec)) sketchTreesCard

/-- THE SECOND FORM's CARD OF 'punnetlaw36.SketchEdges'. -/
def sketchEdgesUptoCard : Claim7 := { stood := { row := sketchEdgesUptoRow, standIns := [], harness := (true, "3439b21c2705567fdab7559c3fd75ee622a5eb7bc8fa6fda3970b5f8bf3c4a10"), looks := false }, kinds := [], alts := [], laidByText := true, laidKinds := [.data, .pinned], laidTests := true, laidLooks := .later }
def SketchEdgesUptoCardSaid : Prop := Claim7.holds Tryz.pinned (.plain (OpenSpec.upto sketchEdgesSpec)) sketchEdgesUptoCard

/-- THE SECOND FORM's CARD OF 'punnetlaw36.SketchLenses'. -/
def sketchLensesUptoCard : Claim7 := { stood := { row := sketchLensesUptoRow, standIns := [], harness := (true, "3439b21c2705567fdab7559c3fd75ee622a5eb7bc8fa6fda3970b5f8bf3c4a10"), looks := false }, kinds := [], alts := [], laidByText := true, laidKinds := [.data, .pinned], laidTests := true, laidLooks := .later }
def SketchLensesUptoCardSaid : Prop := Claim7.holds Tryz.pinned (.plain (OpenSpec.upto sketchLensesSpec)) sketchLensesUptoCard

/-- THE SECOND FORM's CARD OF 'punnetlaw36.SketchFields'. -/
def sketchFieldsUptoCard : Claim7 := { stood := { row := sketchFieldsUptoRow, standIns := [], harness := (true, "3439b21c2705567fdab7559c3fd75ee622a5eb7bc8fa6fda3970b5f8bf3c4a10"), looks := false }, kinds := [], alts := [], laidByText := true, laidKinds := [.data, .pinned], laidTests := true, laidLooks := .later }
def SketchFieldsUptoCardSaid : Prop := Claim7.holds Tryz.pinned (.plain (OpenSpec.upto sketchFieldsSpec)) sketchFieldsUptoCard

/-- THE SECOND FORM's CARD OF 'punnetlaw36.SketchSchemas'. -/
def sketchSchemasUptoCard : Claim7 := { stood := { row := sketchSchemasUptoRow, standIns := [], harness := (true, "3439b21c2705567fdab7559c3fd75ee622a5eb7bc8fa6fda3970b5f8bf3c4a10"), looks := false }, kinds := [], alts := [], laidByText := true, laidKinds := [.data, .pinned], laidTests := true, laidLooks := .later }
def SketchSchemasUptoCardSaid : Prop := Claim7.holds Tryz.pinned (.plain (OpenSpec.upto sketchSchemasSpec)) sketchSchemasUptoCard

/-- THE SECOND FORM's CARD OF 'punnetlaw36.SketchTrees'. -/
def sketchTreesUptoCard : Claim7 := { stood := { row := sketchTreesUptoRow, standIns := [], harness := (true, "3439b21c2705567fdab7559c3fd75ee622a5eb7bc8fa6fda3970b5f8bf3c4a10"), looks := false }, kinds := [], alts := [], laidByText := true, laidKinds := [.data, .pinned], laidTests := true, laidLooks := .later }
def SketchTreesUptoCardSaid : Prop := Claim7.holds Tryz.pinned (.plain (OpenSpec.upto sketchTreesSpec)) sketchTreesUptoCard
end Rows
end Go.Proofs.YtmmffeldlhofiaaGreatDoor
