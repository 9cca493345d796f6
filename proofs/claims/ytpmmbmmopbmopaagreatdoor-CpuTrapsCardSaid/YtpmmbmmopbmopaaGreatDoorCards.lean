/-
  DERIVED. GIVEN WITH THE SEED: THE CARDS: each row of YtpmmbmmopbmopaaGreatDoorRows.lean that lists a variable, with what it lists TIED to the program's text (the seventh form; the later family's looks); each row that meets fmt, with fmt's text TOLD by the authors' own Lean function (tested against real Go, not proved from fmt's source: count such statements apart). THE CARD IS WHAT COUNTS. Prove the row's statement (the work); the ties are given (YtpmmbmmopbmopaaGreatDoorTie.lean); close each card by the builder's one call (the guide's Derived/Test/ToyasCard.lean, 'card_holds'). Laid BY PROGRAM, IN A SANDBOX (cutbox-door.mjs). By AI agents, Wed Nov 11 2026. No macro, syntax, notation, axiom, sorry.
-/
import Derived.Test.YtpmmbmmopbmopaaGreatDoorRows
import GoSem.ClaimSeven
namespace Go.Proofs.YtpmmbmmopbmopaaGreatDoor
namespace Rows

/-- THE TIED CARD OF 'viceroylaw09.CpuReckons'. -/
def cpuReckonsCard : Claim7 := { stood := { row := cpuReckonsRow, standIns := [], harness := (true, "d1f7a278685b17639708c739ca06b5181b6bddcb6c9438b66dc490d0898b3d11"), looks := false }, kinds := [], alts := [], laidByText := true, laidKinds := [.data, .pinned], laidTests := true, laidLooks := .later }
def CpuReckonsCardSaid : Prop := Claim7.holds Tryz.pinned (.plain (OpenSpec.ofChange cpuReckonsSpec)) cpuReckonsCard

/-- THE TIED CARD OF 'viceroylaw09.CpuBack'. -/
def cpuBackCard : Claim7 := { stood := { row := cpuBackRow, standIns := [], harness := (true, "d1f7a278685b17639708c739ca06b5181b6bddcb6c9438b66dc490d0898b3d11"), looks := false }, kinds := [], alts := [], laidByText := true, laidKinds := [.data, .pinned], laidTests := true, laidLooks := .later }
def CpuBackCardSaid : Prop := Claim7.holds Tryz.pinned (.plain (OpenSpec.ofChange cpuBackSpec)) cpuBackCard

/-- THE TIED CARD OF 'viceroylaw09.CpuSystem'. -/
def cpuSystemCard : Claim7 := { stood := { row := cpuSystemRow, standIns := [], harness := (true, "d1f7a278685b17639708c739ca06b5181b6bddcb6c9438b66dc490d0898b3d11"), looks := false }, kinds := [], alts := [], laidByText := true, laidKinds := [.data, .pinned], laidTests := true, laidLooks := .later }
def CpuSystemCardSaid : Prop := Claim7.holds Tryz.pinned (.plain (OpenSpec.ofChange cpuSystemSpec)) cpuSystemCard

/-- THE TIED CARD OF 'viceroylaw09.CpuTraps'. -/
def cpuTrapsCard : Claim7 := { stood := { row := cpuTrapsRow, standIns := [], harness := (true, "d1f7a278685b17639708c739ca06b5181b6bddcb6c9438b66dc490d0898b3d11"), looks := false }, kinds := [], alts := [], laidByText := true, laidKinds := [.data, .pinned], laidTests := true, laidLooks := .later }
def CpuTrapsCardSaid : Prop := Claim7.holds Tryz.pinned (.plain (OpenSpec.ofChange cpuTrapsSpec)) cpuTrapsCard

/-- THE SECOND FORM's CARD OF 'viceroylaw09.CpuReckons'. -/
def cpuReckonsUptoCard : Claim7 := { stood := { row := cpuReckonsUptoRow, standIns := [], harness := (true, "d1f7a278685b17639708c739ca06b5181b6bddcb6c9438b66dc490d0898b3d11"), looks := false }, kinds := [], alts := [], laidByText := true, laidKinds := [.data, .pinned], laidTests := true, laidLooks := .later }
def CpuReckonsUptoCardSaid : Prop := Claim7.holds Tryz.pinned (.plain (OpenSpec.upto cpuReckonsSpec)) cpuReckonsUptoCard

/-- THE SECOND FORM's CARD OF 'viceroylaw09.CpuBack'. -/
def cpuBackUptoCard : Claim7 := { stood := { row := cpuBackUptoRow, standIns := [], harness := (true, "d1f7a278685b17639708c739ca06b5181b6bddcb6c9438b66dc490d0898b3d11"), looks := false }, kinds := [], alts := [], laidByText := true, laidKinds := [.data, .pinned], laidTests := true, laidLooks := .later }
def CpuBackUptoCardSaid : Prop := Claim7.holds Tryz.pinned (.plain (OpenSpec.upto cpuBackSpec)) cpuBackUptoCard

/-- THE SECOND FORM's CARD OF 'viceroylaw09.CpuSystem'. -/
def cpuSystemUptoCard : Claim7 := { stood := { row := cpuSystemUptoRow, standIns := [], harness := (true, "d1f7a278685b17639708c739ca06b5181b6bddcb6c9438b66dc490d0898b3d11"), looks := false }, kinds := [], alts := [], laidByText := true, laidKinds := [.data, .pinned], laidTests := true, laidLooks := .later }
def CpuSystemUptoCardSaid : Prop := Claim7.holds Tryz.pinned (.plain (OpenSpec.upto cpuSystemSpec)) cpuSystemUptoCard

/-- THE SECOND FORM's CARD OF 'viceroylaw09.CpuTraps'. -/
def cpuTrapsUptoCard : Claim7 := { stood := { row := cpuTrapsUptoRow, standIns := [], harness := (true, "d1f7a278685b17639708c739ca06b5181b6bddcb6c9438b66dc490d0898b3d11"), looks := false }, kinds := [], alts := [], laidByText := true, laidKinds := [.data, .pinned], laidTests := true, laidLooks := .later }
def CpuTrapsUptoCardSaid : Prop := Claim7.holds Tryz.pinned (.plain (OpenSpec.upto cpuTrapsSpec)) cpuTrapsUptoCard
end Rows
end Go.Proofs.YtpmmbmmopbmopaaGreatDoor
