/-
  NARROWER THAN 'FOR EVERY INPUT', by the rows' own cells (each row's printed sentence says how): CpuReckons: laid · CpuBack: laid · CpuSystem: laid · CpuTraps: laid.
  DERIVED. THE GIVEN ROWS OF THIS SEAT. 4 by the template 'for every input the law returns true; each argument reads behind the call as it read before'; 0 by the template 'total and deterministic' (their statements: YtpmmbmmopbmopaaGreatDoorTotals.lean).
  GIVEN WITH THE SEED: the statements are not yours to turn. If you find one false, say at which input.
  Laid BY PROGRAM, IN A SANDBOX (cutbox-rows.mjs): the forced cells as the released guide's own fill.sh prints them over the translation 856051cb6ca25e28… (all of the seat's roots in one cut). By AI agents, Wed Nov 11 2026. No macro, syntax, notation, axiom, sorry.
-/
import Derived.Test.YtpmmbmmopbmopaaGreatDoorChecked
import GoSem.PinnedTables
import GoSem.Claim
import GoSem.ClaimJoined
import GoSem.ClaimMapViews
import Derived.JoinedTies
import Derived.KernelRfl
namespace Go.Proofs.YtpmmbmmopbmopaaGreatDoor
/- THE CELL 'sum', in the pinned program and in every row, IS THE sha256 OF THE DUMP (.gsa) THAT YtpmmbmmopbmopaaGreatDoorProg.lean LOADS. Nothing in Lean hashes anything: it is a label: what it is worth is what the hold of that sum in a sandbox is worth. -/
noncomputable def Tryz.pinned : Pinned := { name := "ytpmmbmmopbmopaagreatdoor", sum := "856051cb6ca25e2890954a704c8a5bcad5c5f29b73627a9b1f411943d7f2acc9", checked := Tryz.checked }
namespace Rows
def none {H : Type} : Left H := { results := [], args := [] }

/- WHAT THE LISTED PACKAGE-LEVEL VARIABLES READ AS WHEN THE CALL BEGINS. Each datum BY PROGRAM (the guide's laid-datum.mjs) off the statement by which the dump's own 'gosem.cut.vars' lays the variable. In a bare row this is a premise. The card (YtpmmbmmopbmopaaGreatDoorCards.lean) ties it to the program's text. -/
def laid_unicode_utf8_acceptRanges {H : Type} : DataW H := .agg [.agg [.lit (.int .u8 128), .lit (.int .u8 191)], .agg [.lit (.int .u8 160), .lit (.int .u8 191)], .agg [.lit (.int .u8 128), .lit (.int .u8 159)], .agg [.lit (.int .u8 144), .lit (.int .u8 191)], .agg [.lit (.int .u8 128), .lit (.int .u8 143)], .agg [.lit (.int .u8 0), .lit (.int .u8 0)], .agg [.lit (.int .u8 0), .lit (.int .u8 0)], .agg [.lit (.int .u8 0), .lit (.int .u8 0)], .agg [.lit (.int .u8 0), .lit (.int .u8 0)], .agg [.lit (.int .u8 0), .lit (.int .u8 0)], .agg [.lit (.int .u8 0), .lit (.int .u8 0)], .agg [.lit (.int .u8 0), .lit (.int .u8 0)], .agg [.lit (.int .u8 0), .lit (.int .u8 0)], .agg [.lit (.int .u8 0), .lit (.int .u8 0)], .agg [.lit (.int .u8 0), .lit (.int .u8 0)], .agg [.lit (.int .u8 0), .lit (.int .u8 0)]]
/-- One of Go's own tables, pinned by name: the form's constant. -/
def laid_unicode_utf8_first : DataW Unit := Go.Pinned.utf8First

/-- 'viceroylaw09.CpuReckons': WHATEVER THE INPUT: true; the input reads as it did. -/
def cpuReckonsSpec : ChangeSpec := { name := "cpuReckons", fn := fun _ => fun
  | [d1, d2, d3, d4, d5, d6] => { results := [.lit (.bool true)], args := [d1, d2, d3, d4, d5, d6] }
  | _ => none }
def cpuReckonsRow : OpenClaim := { program := "ytpmmbmmopbmopaagreatdoor", sum := "856051cb6ca25e2890954a704c8a5bcad5c5f29b73627a9b1f411943d7f2acc9", func := "viceroy/viceroylaw09.CpuReckons", spec := "cpuReckons", inPlace := ["internal/bytealg.CountString", "internal/bytealg.IndexByteString", "internal/bytealg.IndexString"], unfollowed := true, recurses := true, named := ["unicode/utf8.first", "unicode/utf8.acceptRanges", "internal/bytealg.MaxLen"], apart := false, laid := [("unicode/utf8.acceptRanges", laid_unicode_utf8_acceptRanges), ("unicode/utf8.first", laid_unicode_utf8_first)] }
def CpuReckonsSaid : Prop := cpuReckonsRow.holds Tryz.pinned (OpenSpec.ofChange cpuReckonsSpec)

/-- ITS FALSE NEIGHBOUR: 'it returns false'. Refute it at one input. -/
def cpuReckonsWrong : ChangeSpec := { name := "cpuReckons", fn := fun _ => fun
  | [d1, d2, d3, d4, d5, d6] => { results := [.lit (.bool false)], args := [d1, d2, d3, d4, d5, d6] }
  | _ => none }
def CpuReckonsWrongFalsely : Prop := cpuReckonsRow.holds Tryz.pinned (OpenSpec.ofChange cpuReckonsWrong)

/-- 'viceroylaw09.CpuBack': WHATEVER THE INPUT: true; the input reads as it did. -/
def cpuBackSpec : ChangeSpec := { name := "cpuBack", fn := fun _ => fun
  | [d1, d2] => { results := [.lit (.bool true)], args := [d1, d2] }
  | _ => none }
def cpuBackRow : OpenClaim := { program := "ytpmmbmmopbmopaagreatdoor", sum := "856051cb6ca25e2890954a704c8a5bcad5c5f29b73627a9b1f411943d7f2acc9", func := "viceroy/viceroylaw09.CpuBack", spec := "cpuBack", inPlace := ["internal/bytealg.CountString", "internal/bytealg.IndexByteString", "internal/bytealg.IndexString"], unfollowed := true, recurses := true, named := ["unicode/utf8.first", "unicode/utf8.acceptRanges", "internal/bytealg.MaxLen"], apart := false, laid := [("unicode/utf8.acceptRanges", laid_unicode_utf8_acceptRanges), ("unicode/utf8.first", laid_unicode_utf8_first)] }
def CpuBackSaid : Prop := cpuBackRow.holds Tryz.pinned (OpenSpec.ofChange cpuBackSpec)

/-- ITS FALSE NEIGHBOUR: 'it returns false'. Refute it at one input. -/
def cpuBackWrong : ChangeSpec := { name := "cpuBack", fn := fun _ => fun
  | [d1, d2] => { results := [.lit (.bool false)], args := [d1, d2] }
  | _ => none }
def CpuBackWrongFalsely : Prop := cpuBackRow.holds Tryz.pinned (OpenSpec.ofChange cpuBackWrong)

/-- 'viceroylaw09.CpuSystem': WHATEVER THE INPUT: true; the input reads as it did. -/
def cpuSystemSpec : ChangeSpec := { name := "cpuSystem", fn := fun _ => fun
  | [d1, d2] => { results := [.lit (.bool true)], args := [d1, d2] }
  | _ => none }
def cpuSystemRow : OpenClaim := { program := "ytpmmbmmopbmopaagreatdoor", sum := "856051cb6ca25e2890954a704c8a5bcad5c5f29b73627a9b1f411943d7f2acc9", func := "viceroy/viceroylaw09.CpuSystem", spec := "cpuSystem", inPlace := ["internal/bytealg.CountString", "internal/bytealg.IndexByteString", "internal/bytealg.IndexString"], unfollowed := true, recurses := true, named := ["unicode/utf8.first", "unicode/utf8.acceptRanges", "internal/bytealg.MaxLen"], apart := false, laid := [("unicode/utf8.acceptRanges", laid_unicode_utf8_acceptRanges), ("unicode/utf8.first", laid_unicode_utf8_first)] }
def CpuSystemSaid : Prop := cpuSystemRow.holds Tryz.pinned (OpenSpec.ofChange cpuSystemSpec)

/-- ITS FALSE NEIGHBOUR: 'it returns false'. Refute it at one input. -/
def cpuSystemWrong : ChangeSpec := { name := "cpuSystem", fn := fun _ => fun
  | [d1, d2] => { results := [.lit (.bool false)], args := [d1, d2] }
  | _ => none }
def CpuSystemWrongFalsely : Prop := cpuSystemRow.holds Tryz.pinned (OpenSpec.ofChange cpuSystemWrong)

/-- 'viceroylaw09.CpuTraps': WHATEVER THE INPUT: true; the input reads as it did. -/
def cpuTrapsSpec : ChangeSpec := { name := "cpuTraps", fn := fun _ => fun
  | [d1, d2, d3] => { results := [.lit (.bool true)], args := [d1, d2, d3] }
  | _ => none }
def cpuTrapsRow : OpenClaim := { program := "ytpmmbmmopbmopaagreatdoor", sum := "856051cb6ca25e2890954a704c8a5bcad5c5f29b73627a9b1f411943d7f2acc9", func := "viceroy/viceroylaw09.CpuTraps", spec := "cpuTraps", inPlace := ["internal/bytealg.CountString", "internal/bytealg.IndexByteString", "internal/bytealg.IndexString"], unfollowed := true, recurses := true, named := ["unicode/utf8.first", "unicode/utf8.acceptRanges", "internal/bytealg.MaxLen"], apart := false, laid := [("unicode/utf8.acceptRanges", laid_unicode_utf8_acceptRanges), ("unicode/utf8.first", laid_unicode_utf8_first)] }
def CpuTrapsSaid : Prop := cpuTrapsRow.holds Tryz.pinned (OpenSpec.ofChange cpuTrapsSpec)

/-- ITS FALSE NEIGHBOUR: 'it returns false'. Refute it at one input. -/
def cpuTrapsWrong : ChangeSpec := { name := "cpuTraps", fn := fun _ => fun
  | [d1, d2, d3] => { results := [.lit (.bool false)], args := [d1, d2, d3] }
  | _ => none }
def CpuTrapsWrongFalsely : Prop := cpuTrapsRow.holds Tryz.pinned (OpenSpec.ofChange cpuTrapsWrong)

/- THE SECOND FORM. 'bulk': how many values and letters a reading holds, each counted each time it is reached (what is shared counts as often as it is met; a slice's spare places count too). A statement '..UptoSaid' is the law's where the arguments, and the package variables that the reading takes, are together of bulk at most 1048576: NARROWER than '..Said'. Prove '..Said' where nothing that the law and all that it calls make is longer than what came in: it says more and counts as full. Else prove '..UptoSaid'. A law counts once. -/
mutual
def uptoBulk {H : Type} : DataW H → Nat
  | .lit (.string bytes) => bytes.length + 1
  | .lit _ => 1
  | .nil => 1
  | .ptr d => uptoBulk d + 1
  | .slice elems spare => uptoBulkAll elems + uptoBulkAll spare + 1
  | .agg parts => uptoBulkAll parts + 1
  | .iface _ d => uptoBulk d + 1
  | .map entries => uptoBulkEntries entries + 1
  | .held _ => 1
def uptoBulkAll {H : Type} : List (DataW H) → Nat
  | [] => 0
  | d :: r => uptoBulk d + uptoBulkAll r
def uptoBulkEntries {H : Type} : List (Lit × DataW H) → Nat
  | [] => 0
  | x :: r => uptoBulkEntry x + uptoBulkEntries r
def uptoBulkEntry {H : Type} : Lit × DataW H → Nat
  | (.string bytes, d) => bytes.length + uptoBulk d + 1
  | (_, d) => uptoBulk d + 1
 end
def uptoSmall : (H : Type) → List (DataW H) → Bool := fun _ ds => decide (uptoBulkAll ds ≤ 1048576)
def OpenSpec.upto (s : _root_.Go.ChangeSpec) : _root_.Go.OpenSpec := { _root_.Go.OpenSpec.ofChange s with cond := some uptoSmall }

/-- 'viceroylaw09.CpuReckons', WHERE WHAT IT READS IS OF BULK AT MOST 1048576: true; the input reads as it did. -/
def cpuReckonsUptoRow : OpenClaim := { program := "ytpmmbmmopbmopaagreatdoor", sum := "856051cb6ca25e2890954a704c8a5bcad5c5f29b73627a9b1f411943d7f2acc9", func := "viceroy/viceroylaw09.CpuReckons", spec := "cpuReckons", inPlace := ["internal/bytealg.CountString", "internal/bytealg.IndexByteString", "internal/bytealg.IndexString"], unfollowed := true, recurses := true, named := ["unicode/utf8.first", "unicode/utf8.acceptRanges", "internal/bytealg.MaxLen"], apart := false, laid := [("unicode/utf8.acceptRanges", laid_unicode_utf8_acceptRanges), ("unicode/utf8.first", laid_unicode_utf8_first)], narrowed := true }
def CpuReckonsUptoSaid : Prop := cpuReckonsUptoRow.holds Tryz.pinned (OpenSpec.upto cpuReckonsSpec)

/-- 'viceroylaw09.CpuBack', WHERE WHAT IT READS IS OF BULK AT MOST 1048576: true; the input reads as it did. -/
def cpuBackUptoRow : OpenClaim := { program := "ytpmmbmmopbmopaagreatdoor", sum := "856051cb6ca25e2890954a704c8a5bcad5c5f29b73627a9b1f411943d7f2acc9", func := "viceroy/viceroylaw09.CpuBack", spec := "cpuBack", inPlace := ["internal/bytealg.CountString", "internal/bytealg.IndexByteString", "internal/bytealg.IndexString"], unfollowed := true, recurses := true, named := ["unicode/utf8.first", "unicode/utf8.acceptRanges", "internal/bytealg.MaxLen"], apart := false, laid := [("unicode/utf8.acceptRanges", laid_unicode_utf8_acceptRanges), ("unicode/utf8.first", laid_unicode_utf8_first)], narrowed := true }
def CpuBackUptoSaid : Prop := cpuBackUptoRow.holds Tryz.pinned (OpenSpec.upto cpuBackSpec)

/-- 'viceroylaw09.CpuSystem', WHERE WHAT IT READS IS OF BULK AT MOST 1048576: true; the input reads as it did. -/
def cpuSystemUptoRow : OpenClaim := { program := "ytpmmbmmopbmopaagreatdoor", sum := "856051cb6ca25e2890954a704c8a5bcad5c5f29b73627a9b1f411943d7f2acc9", func := "viceroy/viceroylaw09.CpuSystem", spec := "cpuSystem", inPlace := ["internal/bytealg.CountString", "internal/bytealg.IndexByteString", "internal/bytealg.IndexString"], unfollowed := true, recurses := true, named := ["unicode/utf8.first", "unicode/utf8.acceptRanges", "internal/bytealg.MaxLen"], apart := false, laid := [("unicode/utf8.acceptRanges", laid_unicode_utf8_acceptRanges), ("unicode/utf8.first", laid_unicode_utf8_first)], narrowed := true }
def CpuSystemUptoSaid : Prop := cpuSystemUptoRow.holds Tryz.pinned (OpenSpec.upto cpuSystemSpec)

/-- 'viceroylaw09.CpuTraps', WHERE WHAT IT READS IS OF BULK AT MOST 1048576: true; the input reads as it did. -/
def cpuTrapsUptoRow : OpenClaim := { program := "ytpmmbmmopbmopaagreatdoor", sum := "856051cb6ca25e2890954a704c8a5bcad5c5f29b73627a9b1f411943d7f2acc9", func := "viceroy/viceroylaw09.CpuTraps", spec := "cpuTraps", inPlace := ["internal/bytealg.CountString", "internal/bytealg.IndexByteString", "internal/bytealg.IndexString"], unfollowed := true, recurses := true, named := ["unicode/utf8.first", "unicode/utf8.acceptRanges", "internal/bytealg.MaxLen"], apart := false, laid := [("unicode/utf8.acceptRanges", laid_unicode_utf8_acceptRanges), ("unicode/utf8.first", laid_unicode_utf8_first)], narrowed := true }
def CpuTrapsUptoSaid : Prop := cpuTrapsUptoRow.holds Tryz.pinned (OpenSpec.upto cpuTrapsSpec)

end Rows
end Go.Proofs.YtpmmbmmopbmopaaGreatDoor
