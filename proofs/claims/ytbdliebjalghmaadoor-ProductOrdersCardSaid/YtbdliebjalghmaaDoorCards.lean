/-
  DERIVED. GIVEN WITH THE SEED: THE CARDS: each row of YtbdliebjalghmaaDoorRows.lean that lists a variable, with what it lists TIED to the program's text (the seventh form; the later family's looks); each row that meets fmt, with fmt's text TOLD by the authors' own Lean function (tested against real Go, not proved from fmt's source: count such statements apart). THE CARD IS WHAT COUNTS. Prove the row's statement (the work); the ties are given (YtbdliebjalghmaaDoorTie.lean); close each card by the builder's one call (the guide's Derived/Test/ToyasCard.lean, 'card_holds'). Laid BY PROGRAM, IN A SANDBOX (cutbox-door.mjs). By AI agents, Wed Nov 11 2026. No macro, syntax, notation, axiom, sorry.
-/
import Derived.Test.YtbdliebjalghmaaDoorRows
import GoSem.ClaimSeven
namespace Go.Proofs.YtbdliebjalghmaaDoor
namespace Rows

/-- THE TIED CARD OF 'overseerlaw06.ProductComposes'. -/
def productComposesCard : Claim7 := { stood := { row := productComposesRow, standIns := [], harness := (true, "20f07eeb3c40a47e0c222f34946432614aa5d990f0b5c0c4d7fa94a0c30b0205"), looks := false }, kinds := [], alts := [], laidByText := true, laidKinds := [.data, .data, .data], laidTests := true, laidLooks := .later }
def ProductComposesCardSaid : Prop := Claim7.holds Tryd.pinned (.plain (OpenSpec.ofChange productComposesSpec)) productComposesCard

/-- THE TIED CARD OF 'overseerlaw06.ProductLimits'. -/
def productLimitsCard : Claim7 := { stood := { row := productLimitsRow, standIns := [], harness := (true, "20f07eeb3c40a47e0c222f34946432614aa5d990f0b5c0c4d7fa94a0c30b0205"), looks := false }, kinds := [], alts := [], laidByText := true, laidKinds := [.data, .data, .data], laidTests := true, laidLooks := .later }
def ProductLimitsCardSaid : Prop := Claim7.holds Tryd.pinned (.plain (OpenSpec.ofChange productLimitsSpec)) productLimitsCard

/-- THE TIED CARD OF 'overseerlaw06.ProductSelf'. -/
def productSelfCard : Claim7 := { stood := { row := productSelfRow, standIns := [], harness := (true, "20f07eeb3c40a47e0c222f34946432614aa5d990f0b5c0c4d7fa94a0c30b0205"), looks := false }, kinds := [], alts := [], laidByText := true, laidKinds := [.data, .data, .data], laidTests := true, laidLooks := .later }
def ProductSelfCardSaid : Prop := Claim7.holds Tryd.pinned (.plain (OpenSpec.ofChange productSelfSpec)) productSelfCard

/-- THE TIED CARD OF 'overseerlaw06.ProductMeets'. -/
def productMeetsCard : Claim7 := { stood := { row := productMeetsRow, standIns := [], harness := (true, "20f07eeb3c40a47e0c222f34946432614aa5d990f0b5c0c4d7fa94a0c30b0205"), looks := false }, kinds := [], alts := [], laidByText := true, laidKinds := [.data, .data, .data], laidTests := true, laidLooks := .later }
def ProductMeetsCardSaid : Prop := Claim7.holds Tryd.pinned (.plain (OpenSpec.ofChange productMeetsSpec)) productMeetsCard

/-- THE TIED CARD OF 'overseerlaw06.ProductFinds'. -/
def productFindsCard : Claim7 := { stood := { row := productFindsRow, standIns := [], harness := (true, "20f07eeb3c40a47e0c222f34946432614aa5d990f0b5c0c4d7fa94a0c30b0205"), looks := false }, kinds := [], alts := [], laidByText := true, laidKinds := [.data, .data, .data], laidTests := true, laidLooks := .later }
def ProductFindsCardSaid : Prop := Claim7.holds Tryd.pinned (.plain (OpenSpec.ofChange productFindsSpec)) productFindsCard

/-- THE TIED CARD OF 'overseerlaw06.ProductRuns'. -/
def productRunsCard : Claim7 := { stood := { row := productRunsRow, standIns := [], harness := (true, "20f07eeb3c40a47e0c222f34946432614aa5d990f0b5c0c4d7fa94a0c30b0205"), looks := false }, kinds := [], alts := [], laidByText := true, laidKinds := [.data, .data, .data], laidTests := true, laidLooks := .later }
def ProductRunsCardSaid : Prop := Claim7.holds Tryd.pinned (.plain (OpenSpec.ofChange productRunsSpec)) productRunsCard

/-- THE TIED CARD OF 'overseerlaw06.ProductSteps'. -/
def productStepsCard : Claim7 := { stood := { row := productStepsRow, standIns := [], harness := (true, "20f07eeb3c40a47e0c222f34946432614aa5d990f0b5c0c4d7fa94a0c30b0205"), looks := false }, kinds := [], alts := [], laidByText := true, laidKinds := [.data, .data, .data], laidTests := true, laidLooks := .later }
def ProductStepsCardSaid : Prop := Claim7.holds Tryd.pinned (.plain (OpenSpec.ofChange productStepsSpec)) productStepsCard

/-- THE TIED CARD OF 'overseerlaw06.ProductOrders'. -/
def productOrdersCard : Claim7 := { stood := { row := productOrdersRow, standIns := [], harness := (true, "20f07eeb3c40a47e0c222f34946432614aa5d990f0b5c0c4d7fa94a0c30b0205"), looks := false }, kinds := [], alts := [], laidByText := true, laidKinds := [.data, .data, .data], laidTests := true, laidLooks := .later }
def ProductOrdersCardSaid : Prop := Claim7.holds Tryd.pinned (.plain (OpenSpec.ofChange productOrdersSpec)) productOrdersCard

/-- THE TIED CARD OF 'overseerlaw06.ProductChecks'. -/
def productChecksCard : Claim7 := { stood := { row := productChecksRow, standIns := [], harness := (true, "20f07eeb3c40a47e0c222f34946432614aa5d990f0b5c0c4d7fa94a0c30b0205"), looks := false }, kinds := [], alts := [], laidByText := true, laidKinds := [.data, .data, .data], laidTests := true, laidLooks := .later }
def ProductChecksCardSaid : Prop := Claim7.holds Tryd.pinned (.plain (OpenSpec.ofChange productChecksSpec)) productChecksCard

/-- THE TIED CARD OF 'overseerlaw06.ProductLanguages'. -/
def productLanguagesCard : Claim7 := { stood := { row := productLanguagesRow, standIns := [], harness := (true, "20f07eeb3c40a47e0c222f34946432614aa5d990f0b5c0c4d7fa94a0c30b0205"), looks := false }, kinds := [], alts := [], laidByText := true, laidKinds := [.data, .data, .data], laidTests := true, laidLooks := .later }
def ProductLanguagesCardSaid : Prop := Claim7.holds Tryd.pinned (.plain (OpenSpec.ofChange productLanguagesSpec)) productLanguagesCard

/-- THE SECOND FORM's CARD OF 'overseerlaw06.ProductComposes'. -/
def productComposesUptoCard : Claim7 := { stood := { row := productComposesUptoRow, standIns := [], harness := (true, "20f07eeb3c40a47e0c222f34946432614aa5d990f0b5c0c4d7fa94a0c30b0205"), looks := false }, kinds := [], alts := [], laidByText := true, laidKinds := [.data, .data, .data], laidTests := true, laidLooks := .later }
def ProductComposesUptoCardSaid : Prop := Claim7.holds Tryd.pinned (.plain (OpenSpec.upto productComposesSpec)) productComposesUptoCard

/-- THE SECOND FORM's CARD OF 'overseerlaw06.ProductLimits'. -/
def productLimitsUptoCard : Claim7 := { stood := { row := productLimitsUptoRow, standIns := [], harness := (true, "20f07eeb3c40a47e0c222f34946432614aa5d990f0b5c0c4d7fa94a0c30b0205"), looks := false }, kinds := [], alts := [], laidByText := true, laidKinds := [.data, .data, .data], laidTests := true, laidLooks := .later }
def ProductLimitsUptoCardSaid : Prop := Claim7.holds Tryd.pinned (.plain (OpenSpec.upto productLimitsSpec)) productLimitsUptoCard

/-- THE SECOND FORM's CARD OF 'overseerlaw06.ProductSelf'. -/
def productSelfUptoCard : Claim7 := { stood := { row := productSelfUptoRow, standIns := [], harness := (true, "20f07eeb3c40a47e0c222f34946432614aa5d990f0b5c0c4d7fa94a0c30b0205"), looks := false }, kinds := [], alts := [], laidByText := true, laidKinds := [.data, .data, .data], laidTests := true, laidLooks := .later }
def ProductSelfUptoCardSaid : Prop := Claim7.holds Tryd.pinned (.plain (OpenSpec.upto productSelfSpec)) productSelfUptoCard

/-- THE SECOND FORM's CARD OF 'overseerlaw06.ProductMeets'. -/
def productMeetsUptoCard : Claim7 := { stood := { row := productMeetsUptoRow, standIns := [], harness := (true, "20f07eeb3c40a47e0c222f34946432614aa5d990f0b5c0c4d7fa94a0c30b0205"), looks := false }, kinds := [], alts := [], laidByText := true, laidKinds := [.data, .data, .data], laidTests := true, laidLooks := .later }
def ProductMeetsUptoCardSaid : Prop := Claim7.holds Tryd.pinned (.plain (OpenSpec.upto productMeetsSpec)) productMeetsUptoCard

/-- THE SECOND FORM's CARD OF 'overseerlaw06.ProductFinds'. -/
def productFindsUptoCard : Claim7 := { stood := { row := productFindsUptoRow, standIns := [], harness := (true, "20f07eeb3c40a47e0c222f34946432614aa5d990f0b5c0c4d7fa94a0c30b0205"), looks := false }, kinds := [], alts := [], laidByText := true, laidKinds := [.data, .data, .data], laidTests := true, laidLooks := .later }
def ProductFindsUptoCardSaid : Prop := Claim7.holds Tryd.pinned (.plain (OpenSpec.upto productFindsSpec)) productFindsUptoCard

/-- THE SECOND FORM's CARD OF 'overseerlaw06.ProductRuns'. -/
def productRunsUptoCard : Claim7 := { stood := { row := productRunsUptoRow, standIns := [], harness := (true, "20f07eeb3c40a47e0c222f34946432614aa5d990f0b5c0c4d7fa94a0c30b0205"), looks := false }, kinds := [], alts := [], laidByText := true, laidKinds := [.data, .data, .data], laidTests := true, laidLooks := .later }
def ProductRunsUptoCardSaid : Prop := Claim7.holds Tryd.pinned (.plain (OpenSpec.upto productRunsSpec)) productRunsUptoCard

/-- THE SECOND FORM's CARD OF 'overseerlaw06.ProductSteps'. -/
def productStepsUptoCard : Claim7 := { stood := { row := productStepsUptoRow, standIns := [], harness := (true, "20f07eeb3c40a47e0c222f34946432614aa5d990f0b5c0c4d7fa94a0c30b0205"), looks := false }, kinds := [], alts := [], laidByText := true, laidKinds := [.data, .data, .data], laidTests := true, laidLooks := .later }
def ProductStepsUptoCardSaid : Prop := Claim7.holds Tryd.pinned (.plain (OpenSpec.upto productStepsSpec)) productStepsUptoCard

/-- THE SECOND FORM's CARD OF 'overseerlaw06.ProductOrders'. -/
def productOrdersUptoCard : Claim7 := { stood := { row := productOrdersUptoRow, standIns := [], harness := (true, "20f07eeb3c40a47e0c222f34946432614aa5d990f0b5c0c4d7fa94a0c30b0205"), looks := false }, kinds := [], alts := [], laidByText := true, laidKinds := [.data, .data, .data], laidTests := true, laidLooks := .later }
def ProductOrdersUptoCardSaid : Prop := Claim7.holds Tryd.pinned (.plain (OpenSpec.upto productOrdersSpec)) productOrdersUptoCard

/-- THE SECOND FORM's CARD OF 'overseerlaw06.ProductChecks'. -/
def productChecksUptoCard : Claim7 := { stood := { row := productChecksUptoRow, standIns := [], harness := (true, "20f07eeb3c40a47e0c222f34946432614aa5d990f0b5c0c4d7fa94a0c30b0205"), looks := false }, kinds := [], alts := [], laidByText := true, laidKinds := [.data, .data, .data], laidTests := true, laidLooks := .later }
def ProductChecksUptoCardSaid : Prop := Claim7.holds Tryd.pinned (.plain (OpenSpec.upto productChecksSpec)) productChecksUptoCard

/-- THE SECOND FORM's CARD OF 'overseerlaw06.ProductLanguages'. -/
def productLanguagesUptoCard : Claim7 := { stood := { row := productLanguagesUptoRow, standIns := [], harness := (true, "20f07eeb3c40a47e0c222f34946432614aa5d990f0b5c0c4d7fa94a0c30b0205"), looks := false }, kinds := [], alts := [], laidByText := true, laidKinds := [.data, .data, .data], laidTests := true, laidLooks := .later }
def ProductLanguagesUptoCardSaid : Prop := Claim7.holds Tryd.pinned (.plain (OpenSpec.upto productLanguagesSpec)) productLanguagesUptoCard
end Rows
end Go.Proofs.YtbdliebjalghmaaDoor
