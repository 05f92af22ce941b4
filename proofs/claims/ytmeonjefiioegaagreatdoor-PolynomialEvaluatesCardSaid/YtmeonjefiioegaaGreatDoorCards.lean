/-
  DERIVED. GIVEN WITH THE SEED: THE CARDS: each row of YtmeonjefiioegaaGreatDoorRows.lean that lists a variable, with what it lists TIED to the program's text (the seventh form; the later family's looks); each row that meets fmt, with fmt's text TOLD by the authors' own Lean function (tested against real Go, not proved from fmt's source: count such statements apart). THE CARD IS WHAT COUNTS. Prove the row's statement (the work); the ties are given (YtmeonjefiioegaaGreatDoorTie.lean); close each card by the builder's one call (the guide's Derived/Test/ToyasCard.lean, 'card_holds'). Laid BY PROGRAM, IN A SANDBOX (cutbox-door.mjs). By AI agents, Wed Nov 11 2026. No macro, syntax, notation, axiom, sorry.
-/
import Derived.Test.YtmeonjefiioegaaGreatDoorRows
import GoSem.ClaimSeven
namespace Go.Proofs.YtmeonjefiioegaaGreatDoor
namespace Rows

/-- THE TIED CARD OF 'exactppllaw03.PolynomialRing'. -/
def polynomialRingCard : Claim7 := { stood := { row := polynomialRingRow, standIns := [], harness := (true, "c51548f0d069f09bb7cee11aaec875e8fd6a32022490e80e68f18fa0d9625625"), looks := false }, kinds := [], alts := [], laidByText := true, laidKinds := [.data, .data, .data], laidTests := true, laidLooks := .later }
def PolynomialRingCardSaid : Prop := Claim7.holds Tryz.pinned (.plain (OpenSpec.ofChange polynomialRingSpec)) polynomialRingCard

/-- THE TIED CARD OF 'exactppllaw03.PolynomialLimits'. -/
def polynomialLimitsCard : Claim7 := { stood := { row := polynomialLimitsRow, standIns := [], harness := (true, "c51548f0d069f09bb7cee11aaec875e8fd6a32022490e80e68f18fa0d9625625"), looks := false }, kinds := [], alts := [], laidByText := true, laidKinds := [.data, .data, .data], laidTests := true, laidLooks := .later }
def PolynomialLimitsCardSaid : Prop := Claim7.holds Tryz.pinned (.plain (OpenSpec.ofChange polynomialLimitsSpec)) polynomialLimitsCard

/-- THE TIED CARD OF 'exactppllaw03.PolynomialDerives'. -/
def polynomialDerivesCard : Claim7 := { stood := { row := polynomialDerivesRow, standIns := [], harness := (true, "c51548f0d069f09bb7cee11aaec875e8fd6a32022490e80e68f18fa0d9625625"), looks := false }, kinds := [], alts := [], laidByText := true, laidKinds := [.data, .data, .data], laidTests := true, laidLooks := .later }
def PolynomialDerivesCardSaid : Prop := Claim7.holds Tryz.pinned (.plain (OpenSpec.ofChange polynomialDerivesSpec)) polynomialDerivesCard

/-- THE TIED CARD OF 'exactppllaw03.PolynomialCoefs'. -/
def polynomialCoefsCard : Claim7 := { stood := { row := polynomialCoefsRow, standIns := [], harness := (true, "c51548f0d069f09bb7cee11aaec875e8fd6a32022490e80e68f18fa0d9625625"), looks := false }, kinds := [], alts := [], laidByText := true, laidKinds := [.data, .data, .data], laidTests := true, laidLooks := .later }
def PolynomialCoefsCardSaid : Prop := Claim7.holds Tryz.pinned (.plain (OpenSpec.ofChange polynomialCoefsSpec)) polynomialCoefsCard

/-- THE TIED CARD OF 'exactppllaw03.PolynomialDivides'. -/
def polynomialDividesCard : Claim7 := { stood := { row := polynomialDividesRow, standIns := [], harness := (true, "c51548f0d069f09bb7cee11aaec875e8fd6a32022490e80e68f18fa0d9625625"), looks := false }, kinds := [], alts := [], laidByText := true, laidKinds := [.data, .data, .data], laidTests := true, laidLooks := .later }
def PolynomialDividesCardSaid : Prop := Claim7.holds Tryz.pinned (.plain (OpenSpec.ofChange polynomialDividesSpec)) polynomialDividesCard

/-- THE TIED CARD OF 'exactppllaw03.PolynomialEvaluates'. -/
def polynomialEvaluatesCard : Claim7 := { stood := { row := polynomialEvaluatesRow, standIns := [], harness := (true, "c51548f0d069f09bb7cee11aaec875e8fd6a32022490e80e68f18fa0d9625625"), looks := false }, kinds := [], alts := [], laidByText := true, laidKinds := [.data, .data, .data], laidTests := true, laidLooks := .later }
def PolynomialEvaluatesCardSaid : Prop := Claim7.holds Tryz.pinned (.plain (OpenSpec.ofChange polynomialEvaluatesSpec)) polynomialEvaluatesCard

/-- THE TIED CARD OF 'exactppllaw03.PolynomialBuilt'. -/
def polynomialBuiltCard : Claim7 := { stood := { row := polynomialBuiltRow, standIns := [], harness := (true, "c51548f0d069f09bb7cee11aaec875e8fd6a32022490e80e68f18fa0d9625625"), looks := false }, kinds := [], alts := [], laidByText := true, laidKinds := [.data, .data, .data], laidTests := true, laidLooks := .later }
def PolynomialBuiltCardSaid : Prop := Claim7.holds Tryz.pinned (.plain (OpenSpec.ofChange polynomialBuiltSpec)) polynomialBuiltCard

/-- THE TIED CARD OF 'exactppllaw03.PolynomialRaw'. -/
def polynomialRawCard : Claim7 := { stood := { row := polynomialRawRow, standIns := [], harness := (true, "c51548f0d069f09bb7cee11aaec875e8fd6a32022490e80e68f18fa0d9625625"), looks := false }, kinds := [], alts := [], laidByText := true, laidKinds := [.data, .data, .data], laidTests := true, laidLooks := .later }
def PolynomialRawCardSaid : Prop := Claim7.holds Tryz.pinned (.plain (OpenSpec.ofChange polynomialRawSpec)) polynomialRawCard

/-- THE SECOND FORM's CARD OF 'exactppllaw03.PolynomialRing'. -/
def polynomialRingUptoCard : Claim7 := { stood := { row := polynomialRingUptoRow, standIns := [], harness := (true, "c51548f0d069f09bb7cee11aaec875e8fd6a32022490e80e68f18fa0d9625625"), looks := false }, kinds := [], alts := [], laidByText := true, laidKinds := [.data, .data, .data], laidTests := true, laidLooks := .later }
def PolynomialRingUptoCardSaid : Prop := Claim7.holds Tryz.pinned (.plain (OpenSpec.upto polynomialRingSpec)) polynomialRingUptoCard

/-- THE SECOND FORM's CARD OF 'exactppllaw03.PolynomialLimits'. -/
def polynomialLimitsUptoCard : Claim7 := { stood := { row := polynomialLimitsUptoRow, standIns := [], harness := (true, "c51548f0d069f09bb7cee11aaec875e8fd6a32022490e80e68f18fa0d9625625"), looks := false }, kinds := [], alts := [], laidByText := true, laidKinds := [.data, .data, .data], laidTests := true, laidLooks := .later }
def PolynomialLimitsUptoCardSaid : Prop := Claim7.holds Tryz.pinned (.plain (OpenSpec.upto polynomialLimitsSpec)) polynomialLimitsUptoCard

/-- THE SECOND FORM's CARD OF 'exactppllaw03.PolynomialDerives'. -/
def polynomialDerivesUptoCard : Claim7 := { stood := { row := polynomialDerivesUptoRow, standIns := [], harness := (true, "c51548f0d069f09bb7cee11aaec875e8fd6a32022490e80e68f18fa0d9625625"), looks := false }, kinds := [], alts := [], laidByText := true, laidKinds := [.data, .data, .data], laidTests := true, laidLooks := .later }
def PolynomialDerivesUptoCardSaid : Prop := Claim7.holds Tryz.pinned (.plain (OpenSpec.upto polynomialDerivesSpec)) polynomialDerivesUptoCard

/-- THE SECOND FORM's CARD OF 'exactppllaw03.PolynomialCoefs'. -/
def polynomialCoefsUptoCard : Claim7 := { stood := { row := polynomialCoefsUptoRow, standIns := [], harness := (true, "c51548f0d069f09bb7cee11aaec875e8fd6a32022490e80e68f18fa0d9625625"), looks := false }, kinds := [], alts := [], laidByText := true, laidKinds := [.data, .data, .data], laidTests := true, laidLooks := .later }
def PolynomialCoefsUptoCardSaid : Prop := Claim7.holds Tryz.pinned (.plain (OpenSpec.upto polynomialCoefsSpec)) polynomialCoefsUptoCard

/-- THE SECOND FORM's CARD OF 'exactppllaw03.PolynomialDivides'. -/
def polynomialDividesUptoCard : Claim7 := { stood := { row := polynomialDividesUptoRow, standIns := [], harness := (true, "c51548f0d069f09bb7cee11aaec875e8fd6a32022490e80e68f18fa0d9625625"), looks := false }, kinds := [], alts := [], laidByText := true, laidKinds := [.data, .data, .data], laidTests := true, laidLooks := .later }
def PolynomialDividesUptoCardSaid : Prop := Claim7.holds Tryz.pinned (.plain (OpenSpec.upto polynomialDividesSpec)) polynomialDividesUptoCard

/-- THE SECOND FORM's CARD OF 'exactppllaw03.PolynomialEvaluates'. -/
def polynomialEvaluatesUptoCard : Claim7 := { stood := { row := polynomialEvaluatesUptoRow, standIns := [], harness := (true, "c51548f0d069f09bb7cee11aaec875e8fd6a32022490e80e68f18fa0d9625625"), looks := false }, kinds := [], alts := [], laidByText := true, laidKinds := [.data, .data, .data], laidTests := true, laidLooks := .later }
def PolynomialEvaluatesUptoCardSaid : Prop := Claim7.holds Tryz.pinned (.plain (OpenSpec.upto polynomialEvaluatesSpec)) polynomialEvaluatesUptoCard

/-- THE SECOND FORM's CARD OF 'exactppllaw03.PolynomialBuilt'. -/
def polynomialBuiltUptoCard : Claim7 := { stood := { row := polynomialBuiltUptoRow, standIns := [], harness := (true, "c51548f0d069f09bb7cee11aaec875e8fd6a32022490e80e68f18fa0d9625625"), looks := false }, kinds := [], alts := [], laidByText := true, laidKinds := [.data, .data, .data], laidTests := true, laidLooks := .later }
def PolynomialBuiltUptoCardSaid : Prop := Claim7.holds Tryz.pinned (.plain (OpenSpec.upto polynomialBuiltSpec)) polynomialBuiltUptoCard

/-- THE SECOND FORM's CARD OF 'exactppllaw03.PolynomialRaw'. -/
def polynomialRawUptoCard : Claim7 := { stood := { row := polynomialRawUptoRow, standIns := [], harness := (true, "c51548f0d069f09bb7cee11aaec875e8fd6a32022490e80e68f18fa0d9625625"), looks := false }, kinds := [], alts := [], laidByText := true, laidKinds := [.data, .data, .data], laidTests := true, laidLooks := .later }
def PolynomialRawUptoCardSaid : Prop := Claim7.holds Tryz.pinned (.plain (OpenSpec.upto polynomialRawSpec)) polynomialRawUptoCard
end Rows
end Go.Proofs.YtmeonjefiioegaaGreatDoor
