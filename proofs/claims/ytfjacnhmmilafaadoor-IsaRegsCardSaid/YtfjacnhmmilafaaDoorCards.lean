/-
  DERIVED. GIVEN WITH THE SEED: THE CARDS: each row of YtfjacnhmmilafaaDoorRows.lean that lists a variable, with what it lists TIED to the program's text (the seventh form; the later family's looks); each row that meets fmt, with fmt's text TOLD by the authors' own Lean function (tested against real Go, not proved from fmt's source: count such statements apart). THE CARD IS WHAT COUNTS. Prove the row's statement (the work); the ties are given (YtfjacnhmmilafaaDoorTie.lean); close each card by the builder's one call (the guide's Derived/Test/ToyasCard.lean, 'card_holds'). Laid BY PROGRAM, IN A SANDBOX (cutbox-door.mjs). By AI agents, Wed Nov 11 2026. No macro, syntax, notation, axiom, sorry.
-/
import Derived.Test.YtfjacnhmmilafaaDoorRows
import GoSem.ClaimSeven
namespace Go.Proofs.YtfjacnhmmilafaaDoor
namespace Rows

/-- THE TIED CARD OF 'viceroylaw05.IsaWords'. -/
def isaWordsCard : Claim7 := { stood := { row := isaWordsRow, standIns := [], harness := (true, "c308e3834138b72962e461b5ea9301c1f824c5db9c35d5b78318afc0c7d05c66"), looks := false }, kinds := [], alts := [], laidByText := true, laidKinds := [.data, .pinned], laidTests := true, laidLooks := .later }
def IsaWordsCardSaid : Prop := Claim7.holds Tryd.pinned (.plain (OpenSpec.ofChange isaWordsSpec)) isaWordsCard

/-- THE TIED CARD OF 'viceroylaw05.IsaRegs'. -/
def isaRegsCard : Claim7 := { stood := { row := isaRegsRow, standIns := [], harness := (true, "c308e3834138b72962e461b5ea9301c1f824c5db9c35d5b78318afc0c7d05c66"), looks := false }, kinds := [], alts := [], laidByText := true, laidKinds := [.data, .pinned], laidTests := true, laidLooks := .later }
def IsaRegsCardSaid : Prop := Claim7.holds Tryd.pinned (.plain (OpenSpec.ofChange isaRegsSpec)) isaRegsCard

/-- THE TIED CARD OF 'viceroylaw05.IsaBack'. -/
def isaBackCard : Claim7 := { stood := { row := isaBackRow, standIns := [], harness := (true, "c308e3834138b72962e461b5ea9301c1f824c5db9c35d5b78318afc0c7d05c66"), looks := false }, kinds := [], alts := [], laidByText := true, laidKinds := [.data, .pinned], laidTests := true, laidLooks := .later }
def IsaBackCardSaid : Prop := Claim7.holds Tryd.pinned (.plain (OpenSpec.ofChange isaBackSpec)) isaBackCard

/-- THE TIED CARD OF 'viceroylaw05.IsaAll'. -/
def isaAllCard : Claim7 := { stood := { row := isaAllRow, standIns := [], harness := (true, "c308e3834138b72962e461b5ea9301c1f824c5db9c35d5b78318afc0c7d05c66"), looks := false }, kinds := [], alts := [], laidByText := true, laidKinds := [.data, .pinned], laidTests := true, laidLooks := .later }
def IsaAllCardSaid : Prop := Claim7.holds Tryd.pinned (.plain (OpenSpec.ofChange isaAllSpec)) isaAllCard

/-- THE TIED CARD OF 'viceroylaw05.IsaFields'. -/
def isaFieldsCard : Claim7 := { stood := { row := isaFieldsRow, standIns := [], harness := (true, "c308e3834138b72962e461b5ea9301c1f824c5db9c35d5b78318afc0c7d05c66"), looks := false }, kinds := [], alts := [], laidByText := true, laidKinds := [.data, .pinned], laidTests := true, laidLooks := .later }
def IsaFieldsCardSaid : Prop := Claim7.holds Tryd.pinned (.plain (OpenSpec.ofChange isaFieldsSpec)) isaFieldsCard

/-- THE SECOND FORM's CARD OF 'viceroylaw05.IsaWords'. -/
def isaWordsUptoCard : Claim7 := { stood := { row := isaWordsUptoRow, standIns := [], harness := (true, "c308e3834138b72962e461b5ea9301c1f824c5db9c35d5b78318afc0c7d05c66"), looks := false }, kinds := [], alts := [], laidByText := true, laidKinds := [.data, .pinned], laidTests := true, laidLooks := .later }
def IsaWordsUptoCardSaid : Prop := Claim7.holds Tryd.pinned (.plain (OpenSpec.upto isaWordsSpec)) isaWordsUptoCard

/-- THE SECOND FORM's CARD OF 'viceroylaw05.IsaRegs'. -/
def isaRegsUptoCard : Claim7 := { stood := { row := isaRegsUptoRow, standIns := [], harness := (true, "c308e3834138b72962e461b5ea9301c1f824c5db9c35d5b78318afc0c7d05c66"), looks := false }, kinds := [], alts := [], laidByText := true, laidKinds := [.data, .pinned], laidTests := true, laidLooks := .later }
def IsaRegsUptoCardSaid : Prop := Claim7.holds Tryd.pinned (.plain (OpenSpec.upto isaRegsSpec)) isaRegsUptoCard

/-- THE SECOND FORM's CARD OF 'viceroylaw05.IsaBack'. -/
def isaBackUptoCard : Claim7 := { stood := { row := isaBackUptoRow, standIns := [], harness := (true, "c308e3834138b72962e461b5ea9301c1f824c5db9c35d5b78318afc0c7d05c66"), looks := false }, kinds := [], alts := [], laidByText := true, laidKinds := [.data, .pinned], laidTests := true, laidLooks := .later }
def IsaBackUptoCardSaid : Prop := Claim7.holds Tryd.pinned (.plain (OpenSpec.upto isaBackSpec)) isaBackUptoCard

/-- THE SECOND FORM's CARD OF 'viceroylaw05.IsaAll'. -/
def isaAllUptoCard : Claim7 := { stood := { row := isaAllUptoRow, standIns := [], harness := (true, "c308e3834138b72962e461b5ea9301c1f824c5db9c35d5b78318afc0c7d05c66"), looks := false }, kinds := [], alts := [], laidByText := true, laidKinds := [.data, .pinned], laidTests := true, laidLooks := .later }
def IsaAllUptoCardSaid : Prop := Claim7.holds Tryd.pinned (.plain (OpenSpec.upto isaAllSpec)) isaAllUptoCard

/-- THE SECOND FORM's CARD OF 'viceroylaw05.IsaFields'. -/
def isaFieldsUptoCard : Claim7 := { stood := { row := isaFieldsUptoRow, standIns := [], harness := (true, "c308e3834138b72962e461b5ea9301c1f824c5db9c35d5b78318afc0c7d05c66"), looks := false }, kinds := [], alts := [], laidByText := true, laidKinds := [.data, .pinned], laidTests := true, laidLooks := .later }
def IsaFieldsUptoCardSaid : Prop := Claim7.holds Tryd.pinned (.plain (OpenSpec.upto isaFieldsSpec)) isaFieldsUptoCard
end Rows
end Go.Proofs.YtfjacnhmmilafaaDoor
