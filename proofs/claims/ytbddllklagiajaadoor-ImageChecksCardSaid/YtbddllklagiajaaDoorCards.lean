/-
  DERIVED. GIVEN WITH THE SEED: THE CARDS: each row of YtbddllklagiajaaDoorRows.lean that lists a variable, with what it lists TIED to the program's text (the seventh form; the later family's looks); each row that meets fmt, with fmt's text TOLD by the authors' own Lean function (tested against real Go, not proved from fmt's source: count such statements apart). THE CARD IS WHAT COUNTS. Prove the row's statement (the work); the ties are given (YtbddllklagiajaaDoorTie.lean); close each card by the builder's one call (the guide's Derived/Test/ToyasCard.lean, 'card_holds'). Laid BY PROGRAM, IN A SANDBOX (cutbox-door.mjs). By AI agents, Wed Nov 11 2026. No macro, syntax, notation, axiom, sorry.
-/
import Derived.Test.YtbddllklagiajaaDoorRows
import GoSem.ClaimSeven
namespace Go.Proofs.YtbddllklagiajaaDoor
namespace Rows

/-- THE TIED CARD OF 'replevinlaw20.ImageMemory'. -/
def imageMemoryCard : Claim7 := { stood := { row := imageMemoryRow, standIns := [], harness := (true, "ddea6ce16e1ac7bb7b5e4cb001bcb5be417f5c0cac29985ad431d693c65e8a9e"), looks := false }, kinds := [], alts := [], laidByText := true, laidKinds := [.data], laidTests := true, laidLooks := .later }
def ImageMemoryCardSaid : Prop := Claim7.holds Tryd.pinned (.plain (OpenSpec.ofChange imageMemorySpec)) imageMemoryCard

/-- THE TIED CARD OF 'replevinlaw20.ImageLoads'. -/
def imageLoadsCard : Claim7 := { stood := { row := imageLoadsRow, standIns := [], harness := (true, "ddea6ce16e1ac7bb7b5e4cb001bcb5be417f5c0cac29985ad431d693c65e8a9e"), looks := false }, kinds := [], alts := [], laidByText := true, laidKinds := [.data], laidTests := true, laidLooks := .later }
def ImageLoadsCardSaid : Prop := Claim7.holds Tryd.pinned (.plain (OpenSpec.ofChange imageLoadsSpec)) imageLoadsCard

/-- THE TIED CARD OF 'replevinlaw20.ImageChecks'. -/
def imageChecksCard : Claim7 := { stood := { row := imageChecksRow, standIns := [], harness := (true, "ddea6ce16e1ac7bb7b5e4cb001bcb5be417f5c0cac29985ad431d693c65e8a9e"), looks := false }, kinds := [], alts := [], laidByText := true, laidKinds := [.data], laidTests := true, laidLooks := .later }
def ImageChecksCardSaid : Prop := Claim7.holds Tryd.pinned (.plain (OpenSpec.ofChange imageChecksSpec)) imageChecksCard

/-- THE TIED CARD OF 'replevinlaw20.ImageEncodes'. -/
def imageEncodesCard : Claim7 := { stood := { row := imageEncodesRow, standIns := [], harness := (true, "ddea6ce16e1ac7bb7b5e4cb001bcb5be417f5c0cac29985ad431d693c65e8a9e"), looks := false }, kinds := [], alts := [], laidByText := true, laidKinds := [.data], laidTests := true, laidLooks := .later }
def ImageEncodesCardSaid : Prop := Claim7.holds Tryd.pinned (.plain (OpenSpec.ofChange imageEncodesSpec)) imageEncodesCard

/-- THE TIED CARD OF 'replevinlaw20.ImageDecodes'. -/
def imageDecodesCard : Claim7 := { stood := { row := imageDecodesRow, standIns := [], harness := (true, "ddea6ce16e1ac7bb7b5e4cb001bcb5be417f5c0cac29985ad431d693c65e8a9e"), looks := false }, kinds := [], alts := [], laidByText := true, laidKinds := [.data], laidTests := true, laidLooks := .later }
def ImageDecodesCardSaid : Prop := Claim7.holds Tryd.pinned (.plain (OpenSpec.ofChange imageDecodesSpec)) imageDecodesCard

/-- THE TIED CARD OF 'replevinlaw20.ImageSpoils'. -/
def imageSpoilsCard : Claim7 := { stood := { row := imageSpoilsRow, standIns := [], harness := (true, "ddea6ce16e1ac7bb7b5e4cb001bcb5be417f5c0cac29985ad431d693c65e8a9e"), looks := false }, kinds := [], alts := [], laidByText := true, laidKinds := [.data], laidTests := true, laidLooks := .later }
def ImageSpoilsCardSaid : Prop := Claim7.holds Tryd.pinned (.plain (OpenSpec.ofChange imageSpoilsSpec)) imageSpoilsCard

/-- THE TIED CARD OF 'replevinlaw20.ImageCuts'. -/
def imageCutsCard : Claim7 := { stood := { row := imageCutsRow, standIns := [], harness := (true, "ddea6ce16e1ac7bb7b5e4cb001bcb5be417f5c0cac29985ad431d693c65e8a9e"), looks := false }, kinds := [], alts := [], laidByText := true, laidKinds := [.data], laidTests := true, laidLooks := .later }
def ImageCutsCardSaid : Prop := Claim7.holds Tryd.pinned (.plain (OpenSpec.ofChange imageCutsSpec)) imageCutsCard

/-- THE SECOND FORM's CARD OF 'replevinlaw20.ImageMemory'. -/
def imageMemoryUptoCard : Claim7 := { stood := { row := imageMemoryUptoRow, standIns := [], harness := (true, "ddea6ce16e1ac7bb7b5e4cb001bcb5be417f5c0cac29985ad431d693c65e8a9e"), looks := false }, kinds := [], alts := [], laidByText := true, laidKinds := [.data], laidTests := true, laidLooks := .later }
def ImageMemoryUptoCardSaid : Prop := Claim7.holds Tryd.pinned (.plain (OpenSpec.upto imageMemorySpec)) imageMemoryUptoCard

/-- THE SECOND FORM's CARD OF 'replevinlaw20.ImageLoads'. -/
def imageLoadsUptoCard : Claim7 := { stood := { row := imageLoadsUptoRow, standIns := [], harness := (true, "ddea6ce16e1ac7bb7b5e4cb001bcb5be417f5c0cac29985ad431d693c65e8a9e"), looks := false }, kinds := [], alts := [], laidByText := true, laidKinds := [.data], laidTests := true, laidLooks := .later }
def ImageLoadsUptoCardSaid : Prop := Claim7.holds Tryd.pinned (.plain (OpenSpec.upto imageLoadsSpec)) imageLoadsUptoCard

/-- THE SECOND FORM's CARD OF 'replevinlaw20.ImageChecks'. -/
def imageChecksUptoCard : Claim7 := { stood := { row := imageChecksUptoRow, standIns := [], harness := (true, "ddea6ce16e1ac7bb7b5e4cb001bcb5be417f5c0cac29985ad431d693c65e8a9e"), looks := false }, kinds := [], alts := [], laidByText := true, laidKinds := [.data], laidTests := true, laidLooks := .later }
def ImageChecksUptoCardSaid : Prop := Claim7.holds Tryd.pinned (.plain (OpenSpec.upto imageChecksSpec)) imageChecksUptoCard

/-- THE SECOND FORM's CARD OF 'replevinlaw20.ImageEncodes'. -/
def imageEncodesUptoCard : Claim7 := { stood := { row := imageEncodesUptoRow, standIns := [], harness := (true, "ddea6ce16e1ac7bb7b5e4cb001bcb5be417f5c0cac29985ad431d693c65e8a9e"), looks := false }, kinds := [], alts := [], laidByText := true, laidKinds := [.data], laidTests := true, laidLooks := .later }
def ImageEncodesUptoCardSaid : Prop := Claim7.holds Tryd.pinned (.plain (OpenSpec.upto imageEncodesSpec)) imageEncodesUptoCard

/-- THE SECOND FORM's CARD OF 'replevinlaw20.ImageDecodes'. -/
def imageDecodesUptoCard : Claim7 := { stood := { row := imageDecodesUptoRow, standIns := [], harness := (true, "ddea6ce16e1ac7bb7b5e4cb001bcb5be417f5c0cac29985ad431d693c65e8a9e"), looks := false }, kinds := [], alts := [], laidByText := true, laidKinds := [.data], laidTests := true, laidLooks := .later }
def ImageDecodesUptoCardSaid : Prop := Claim7.holds Tryd.pinned (.plain (OpenSpec.upto imageDecodesSpec)) imageDecodesUptoCard

/-- THE SECOND FORM's CARD OF 'replevinlaw20.ImageSpoils'. -/
def imageSpoilsUptoCard : Claim7 := { stood := { row := imageSpoilsUptoRow, standIns := [], harness := (true, "ddea6ce16e1ac7bb7b5e4cb001bcb5be417f5c0cac29985ad431d693c65e8a9e"), looks := false }, kinds := [], alts := [], laidByText := true, laidKinds := [.data], laidTests := true, laidLooks := .later }
def ImageSpoilsUptoCardSaid : Prop := Claim7.holds Tryd.pinned (.plain (OpenSpec.upto imageSpoilsSpec)) imageSpoilsUptoCard

/-- THE SECOND FORM's CARD OF 'replevinlaw20.ImageCuts'. -/
def imageCutsUptoCard : Claim7 := { stood := { row := imageCutsUptoRow, standIns := [], harness := (true, "ddea6ce16e1ac7bb7b5e4cb001bcb5be417f5c0cac29985ad431d693c65e8a9e"), looks := false }, kinds := [], alts := [], laidByText := true, laidKinds := [.data], laidTests := true, laidLooks := .later }
def ImageCutsUptoCardSaid : Prop := Claim7.holds Tryd.pinned (.plain (OpenSpec.upto imageCutsSpec)) imageCutsUptoCard
end Rows
end Go.Proofs.YtbddllklagiajaaDoor
