/-
  DERIVED. GIVEN WITH THE SEED: THE CARDS: each row of YtbbgahoeokffbaaDoorRows.lean that lists a variable, with what it lists TIED to the program's text (the seventh form; the later family's looks); each row that meets fmt, with fmt's text TOLD by the authors' own Lean function (tested against real Go, not proved from fmt's source: count such statements apart). THE CARD IS WHAT COUNTS. Prove the row's statement (the work); the ties are given (YtbbgahoeokffbaaDoorTie.lean); close each card by the builder's one call (the guide's Derived/Test/ToyasCard.lean, 'card_holds'). Laid BY PROGRAM, IN A SANDBOX (cutbox-door.mjs). By AI agents, Wed Nov 11 2026. No macro, syntax, notation, axiom, sorry.
-/
import Derived.Test.YtbbgahoeokffbaaDoorRows
import GoSem.ClaimSeven
namespace Go.Proofs.YtbbgahoeokffbaaDoor
namespace Rows

/-- THE TIED CARD OF 'laws.FnExactHashBegin'. -/
def fnExactHashBeginCard : Claim7 := { stood := { row := fnExactHashBeginRow, standIns := [], harness := (true, "e65ac55bb288f92a64d81740dac0d9c31e1ac957ac94ca76a6c298684f1eb520"), looks := false }, kinds := [], alts := [], laidByText := true, laidKinds := [.data], laidTests := true, laidLooks := .later }
def FnExactHashBeginCardSaid : Prop := Claim7.holds Tryd.pinned (.plain (OpenSpec.ofChange fnExactHashBeginSpec)) fnExactHashBeginCard

/-- THE TIED CARD OF 'laws.FnExactHashMore'. -/
def fnExactHashMoreCard : Claim7 := { stood := { row := fnExactHashMoreRow, standIns := [], harness := (true, "e65ac55bb288f92a64d81740dac0d9c31e1ac957ac94ca76a6c298684f1eb520"), looks := false }, kinds := [], alts := [], laidByText := true, laidKinds := [.data], laidTests := true, laidLooks := .later }
def FnExactHashMoreCardSaid : Prop := Claim7.holds Tryd.pinned (.plain (OpenSpec.ofChange fnExactHashMoreSpec)) fnExactHashMoreCard

/-- THE TIED CARD OF 'laws.FnExactDigest'. -/
def fnExactDigestCard : Claim7 := { stood := { row := fnExactDigestRow, standIns := [], harness := (true, "e65ac55bb288f92a64d81740dac0d9c31e1ac957ac94ca76a6c298684f1eb520"), looks := false }, kinds := [], alts := [], laidByText := true, laidKinds := [.data, .data], laidTests := true, laidLooks := .later }
def FnExactDigestCardSaid : Prop := Claim7.holds Tryd.pinned (.plain (OpenSpec.ofChange fnExactDigestSpec)) fnExactDigestCard

/-- THE TIED CARD OF 'laws.FnExactShort'. -/
def fnExactShortCard : Claim7 := { stood := { row := fnExactShortRow, standIns := [], harness := (true, "e65ac55bb288f92a64d81740dac0d9c31e1ac957ac94ca76a6c298684f1eb520"), looks := false }, kinds := [], alts := [], laidByText := true, laidKinds := [.data, .data], laidTests := true, laidLooks := .later }
def FnExactShortCardSaid : Prop := Claim7.holds Tryd.pinned (.plain (OpenSpec.ofChange fnExactShortSpec)) fnExactShortCard

/-- THE TIED CARD OF 'laws.FnExactBlobKey'. -/
def fnExactBlobKeyCard : Claim7 := { stood := { row := fnExactBlobKeyRow, standIns := [], harness := (true, "e65ac55bb288f92a64d81740dac0d9c31e1ac957ac94ca76a6c298684f1eb520"), looks := false }, kinds := [], alts := [], laidByText := true, laidKinds := [.data, .data], laidTests := true, laidLooks := .later }
def FnExactBlobKeyCardSaid : Prop := Claim7.holds Tryd.pinned (.plain (OpenSpec.ofChange fnExactBlobKeySpec)) fnExactBlobKeyCard

/-- THE TIED CARD OF 'laws.FnExactHashEnd'. -/
def fnExactHashEndCard : Claim7 := { stood := { row := fnExactHashEndRow, standIns := [], harness := (true, "e65ac55bb288f92a64d81740dac0d9c31e1ac957ac94ca76a6c298684f1eb520"), looks := false }, kinds := [], alts := [], laidByText := true, laidKinds := [.data], laidTests := true, laidLooks := .later }
def FnExactHashEndCardSaid : Prop := Claim7.holds Tryd.pinned (.plain (OpenSpec.ofChange fnExactHashEndSpec)) fnExactHashEndCard

/-- THE TIED CARD OF 'laws.FnExactPackGet'. -/
def fnExactPackGetCard : Claim7 := { stood := { row := fnExactPackGetRow, standIns := [], harness := (true, "e65ac55bb288f92a64d81740dac0d9c31e1ac957ac94ca76a6c298684f1eb520"), looks := false }, kinds := [], alts := [], laidByText := true, laidKinds := [.data, .data], laidTests := true, laidLooks := .later }
def FnExactPackGetCardSaid : Prop := Claim7.holds Tryd.pinned (.plain (OpenSpec.ofChange fnExactPackGetSpec)) fnExactPackGetCard

/-- THE TIED CARD OF 'laws.FnExactPackRight'. -/
def fnExactPackRightCard : Claim7 := { stood := { row := fnExactPackRightRow, standIns := [], harness := (true, "e65ac55bb288f92a64d81740dac0d9c31e1ac957ac94ca76a6c298684f1eb520"), looks := false }, kinds := [], alts := [], laidByText := true, laidKinds := [.data, .data], laidTests := true, laidLooks := .later }
def FnExactPackRightCardSaid : Prop := Claim7.holds Tryd.pinned (.plain (OpenSpec.ofChange fnExactPackRightSpec)) fnExactPackRightCard

/-- THE TIED CARD OF 'laws.FnExactPackBytes'. -/
def fnExactPackBytesCard : Claim7 := { stood := { row := fnExactPackBytesRow, standIns := [], harness := (true, "e65ac55bb288f92a64d81740dac0d9c31e1ac957ac94ca76a6c298684f1eb520"), looks := false }, kinds := [], alts := [], laidByText := true, laidKinds := [.data, .data], laidTests := true, laidLooks := .later }
def FnExactPackBytesCardSaid : Prop := Claim7.holds Tryd.pinned (.plain (OpenSpec.ofChange fnExactPackBytesSpec)) fnExactPackBytesCard

/-- THE SECOND FORM's CARD OF 'laws.FnExactHashBegin'. -/
def fnExactHashBeginUptoCard : Claim7 := { stood := { row := fnExactHashBeginUptoRow, standIns := [], harness := (true, "e65ac55bb288f92a64d81740dac0d9c31e1ac957ac94ca76a6c298684f1eb520"), looks := false }, kinds := [], alts := [], laidByText := true, laidKinds := [.data], laidTests := true, laidLooks := .later }
def FnExactHashBeginUptoCardSaid : Prop := Claim7.holds Tryd.pinned (.plain (OpenSpec.upto fnExactHashBeginSpec)) fnExactHashBeginUptoCard

/-- THE SECOND FORM's CARD OF 'laws.FnExactHashMore'. -/
def fnExactHashMoreUptoCard : Claim7 := { stood := { row := fnExactHashMoreUptoRow, standIns := [], harness := (true, "e65ac55bb288f92a64d81740dac0d9c31e1ac957ac94ca76a6c298684f1eb520"), looks := false }, kinds := [], alts := [], laidByText := true, laidKinds := [.data], laidTests := true, laidLooks := .later }
def FnExactHashMoreUptoCardSaid : Prop := Claim7.holds Tryd.pinned (.plain (OpenSpec.upto fnExactHashMoreSpec)) fnExactHashMoreUptoCard

/-- THE SECOND FORM's CARD OF 'laws.FnExactDigest'. -/
def fnExactDigestUptoCard : Claim7 := { stood := { row := fnExactDigestUptoRow, standIns := [], harness := (true, "e65ac55bb288f92a64d81740dac0d9c31e1ac957ac94ca76a6c298684f1eb520"), looks := false }, kinds := [], alts := [], laidByText := true, laidKinds := [.data, .data], laidTests := true, laidLooks := .later }
def FnExactDigestUptoCardSaid : Prop := Claim7.holds Tryd.pinned (.plain (OpenSpec.upto fnExactDigestSpec)) fnExactDigestUptoCard

/-- THE SECOND FORM's CARD OF 'laws.FnExactShort'. -/
def fnExactShortUptoCard : Claim7 := { stood := { row := fnExactShortUptoRow, standIns := [], harness := (true, "e65ac55bb288f92a64d81740dac0d9c31e1ac957ac94ca76a6c298684f1eb520"), looks := false }, kinds := [], alts := [], laidByText := true, laidKinds := [.data, .data], laidTests := true, laidLooks := .later }
def FnExactShortUptoCardSaid : Prop := Claim7.holds Tryd.pinned (.plain (OpenSpec.upto fnExactShortSpec)) fnExactShortUptoCard

/-- THE SECOND FORM's CARD OF 'laws.FnExactBlobKey'. -/
def fnExactBlobKeyUptoCard : Claim7 := { stood := { row := fnExactBlobKeyUptoRow, standIns := [], harness := (true, "e65ac55bb288f92a64d81740dac0d9c31e1ac957ac94ca76a6c298684f1eb520"), looks := false }, kinds := [], alts := [], laidByText := true, laidKinds := [.data, .data], laidTests := true, laidLooks := .later }
def FnExactBlobKeyUptoCardSaid : Prop := Claim7.holds Tryd.pinned (.plain (OpenSpec.upto fnExactBlobKeySpec)) fnExactBlobKeyUptoCard

/-- THE SECOND FORM's CARD OF 'laws.FnExactHashEnd'. -/
def fnExactHashEndUptoCard : Claim7 := { stood := { row := fnExactHashEndUptoRow, standIns := [], harness := (true, "e65ac55bb288f92a64d81740dac0d9c31e1ac957ac94ca76a6c298684f1eb520"), looks := false }, kinds := [], alts := [], laidByText := true, laidKinds := [.data], laidTests := true, laidLooks := .later }
def FnExactHashEndUptoCardSaid : Prop := Claim7.holds Tryd.pinned (.plain (OpenSpec.upto fnExactHashEndSpec)) fnExactHashEndUptoCard

/-- THE SECOND FORM's CARD OF 'laws.FnExactPackGet'. -/
def fnExactPackGetUptoCard : Claim7 := { stood := { row := fnExactPackGetUptoRow, standIns := [], harness := (true, "e65ac55bb288f92a64d81740dac0d9c31e1ac957ac94ca76a6c298684f1eb520"), looks := false }, kinds := [], alts := [], laidByText := true, laidKinds := [.data, .data], laidTests := true, laidLooks := .later }
def FnExactPackGetUptoCardSaid : Prop := Claim7.holds Tryd.pinned (.plain (OpenSpec.upto fnExactPackGetSpec)) fnExactPackGetUptoCard

/-- THE SECOND FORM's CARD OF 'laws.FnExactPackRight'. -/
def fnExactPackRightUptoCard : Claim7 := { stood := { row := fnExactPackRightUptoRow, standIns := [], harness := (true, "e65ac55bb288f92a64d81740dac0d9c31e1ac957ac94ca76a6c298684f1eb520"), looks := false }, kinds := [], alts := [], laidByText := true, laidKinds := [.data, .data], laidTests := true, laidLooks := .later }
def FnExactPackRightUptoCardSaid : Prop := Claim7.holds Tryd.pinned (.plain (OpenSpec.upto fnExactPackRightSpec)) fnExactPackRightUptoCard

/-- THE SECOND FORM's CARD OF 'laws.FnExactPackBytes'. -/
def fnExactPackBytesUptoCard : Claim7 := { stood := { row := fnExactPackBytesUptoRow, standIns := [], harness := (true, "e65ac55bb288f92a64d81740dac0d9c31e1ac957ac94ca76a6c298684f1eb520"), looks := false }, kinds := [], alts := [], laidByText := true, laidKinds := [.data, .data], laidTests := true, laidLooks := .later }
def FnExactPackBytesUptoCardSaid : Prop := Claim7.holds Tryd.pinned (.plain (OpenSpec.upto fnExactPackBytesSpec)) fnExactPackBytesUptoCard
end Rows
end Go.Proofs.YtbbgahoeokffbaaDoor
