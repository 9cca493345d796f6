/-
  DERIVED. GIVEN WITH THE SEED: THE CARDS: each row of YtaijcllgdlalpaaGreatDoorRows.lean that lists a variable, with what it lists TIED to the program's text (the seventh form; the later family's looks); each row that meets fmt, with fmt's text TOLD by the authors' own Lean function (tested against real Go, not proved from fmt's source: count such statements apart). THE CARD IS WHAT COUNTS. Prove the row's statement (the work); the ties are given (YtaijcllgdlalpaaGreatDoorTie.lean); close each card by the builder's one call (the guide's Derived/Test/ToyasCard.lean, 'card_holds'). Laid BY PROGRAM, IN A SANDBOX (cutbox-door.mjs). By AI agents, Wed Nov 11 2026. No macro, syntax, notation, axiom, sorry.
-/
import Derived.Test.YtaijcllgdlalpaaGreatDoorRows
import GoSem.ClaimSeven
namespace Go.Proofs.YtaijcllgdlalpaaGreatDoor
namespace Rows

/-- THE TIED CARD OF 'viceroylaw09.CpuForgets'. -/
def cpuForgetsCard : Claim7 := { stood := { row := cpuForgetsRow, standIns := [], harness := (true, "f48ad8fd185a909d0a3368053ea4a08992b71bca754c88a63bc06f2c232e95ff"), looks := false }, kinds := [], alts := [], laidByText := true, laidKinds := [.data, .pinned], laidTests := true, laidLooks := .later }
def CpuForgetsCardSaid : Prop := Claim7.holds Tryz.pinned (.plain (OpenSpec.ofChange cpuForgetsSpec)) cpuForgetsCard

/-- THE TIED CARD OF 'viceroylaw09.CpuConfined'. -/
def cpuConfinedCard : Claim7 := { stood := { row := cpuConfinedRow, standIns := [], harness := (true, "f48ad8fd185a909d0a3368053ea4a08992b71bca754c88a63bc06f2c232e95ff"), looks := false }, kinds := [], alts := [], laidByText := true, laidKinds := [.data, .pinned], laidTests := true, laidLooks := .later }
def CpuConfinedCardSaid : Prop := Claim7.holds Tryz.pinned (.plain (OpenSpec.ofChange cpuConfinedSpec)) cpuConfinedCard

/-- THE TIED CARD OF 'viceroylaw09.CpuRuns'. -/
def cpuRunsCard : Claim7 := { stood := { row := cpuRunsRow, standIns := [], harness := (true, "f48ad8fd185a909d0a3368053ea4a08992b71bca754c88a63bc06f2c232e95ff"), looks := false }, kinds := [], alts := [], laidByText := true, laidKinds := [.data, .pinned], laidTests := true, laidLooks := .later }
def CpuRunsCardSaid : Prop := Claim7.holds Tryz.pinned (.plain (OpenSpec.ofChange cpuRunsSpec)) cpuRunsCard

/-- THE TIED CARD OF 'viceroylaw09.CpuSteps'. -/
def cpuStepsCard : Claim7 := { stood := { row := cpuStepsRow, standIns := [], harness := (true, "f48ad8fd185a909d0a3368053ea4a08992b71bca754c88a63bc06f2c232e95ff"), looks := false }, kinds := [], alts := [], laidByText := true, laidKinds := [.data, .pinned], laidTests := true, laidLooks := .later }
def CpuStepsCardSaid : Prop := Claim7.holds Tryz.pinned (.plain (OpenSpec.ofChange cpuStepsSpec)) cpuStepsCard

/-- THE SECOND FORM's CARD OF 'viceroylaw09.CpuForgets'. -/
def cpuForgetsUptoCard : Claim7 := { stood := { row := cpuForgetsUptoRow, standIns := [], harness := (true, "f48ad8fd185a909d0a3368053ea4a08992b71bca754c88a63bc06f2c232e95ff"), looks := false }, kinds := [], alts := [], laidByText := true, laidKinds := [.data, .pinned], laidTests := true, laidLooks := .later }
def CpuForgetsUptoCardSaid : Prop := Claim7.holds Tryz.pinned (.plain (OpenSpec.upto cpuForgetsSpec)) cpuForgetsUptoCard

/-- THE SECOND FORM's CARD OF 'viceroylaw09.CpuConfined'. -/
def cpuConfinedUptoCard : Claim7 := { stood := { row := cpuConfinedUptoRow, standIns := [], harness := (true, "f48ad8fd185a909d0a3368053ea4a08992b71bca754c88a63bc06f2c232e95ff"), looks := false }, kinds := [], alts := [], laidByText := true, laidKinds := [.data, .pinned], laidTests := true, laidLooks := .later }
def CpuConfinedUptoCardSaid : Prop := Claim7.holds Tryz.pinned (.plain (OpenSpec.upto cpuConfinedSpec)) cpuConfinedUptoCard

/-- THE SECOND FORM's CARD OF 'viceroylaw09.CpuRuns'. -/
def cpuRunsUptoCard : Claim7 := { stood := { row := cpuRunsUptoRow, standIns := [], harness := (true, "f48ad8fd185a909d0a3368053ea4a08992b71bca754c88a63bc06f2c232e95ff"), looks := false }, kinds := [], alts := [], laidByText := true, laidKinds := [.data, .pinned], laidTests := true, laidLooks := .later }
def CpuRunsUptoCardSaid : Prop := Claim7.holds Tryz.pinned (.plain (OpenSpec.upto cpuRunsSpec)) cpuRunsUptoCard

/-- THE SECOND FORM's CARD OF 'viceroylaw09.CpuSteps'. -/
def cpuStepsUptoCard : Claim7 := { stood := { row := cpuStepsUptoRow, standIns := [], harness := (true, "f48ad8fd185a909d0a3368053ea4a08992b71bca754c88a63bc06f2c232e95ff"), looks := false }, kinds := [], alts := [], laidByText := true, laidKinds := [.data, .pinned], laidTests := true, laidLooks := .later }
def CpuStepsUptoCardSaid : Prop := Claim7.holds Tryz.pinned (.plain (OpenSpec.upto cpuStepsSpec)) cpuStepsUptoCard
end Rows
end Go.Proofs.YtaijcllgdlalpaaGreatDoor
