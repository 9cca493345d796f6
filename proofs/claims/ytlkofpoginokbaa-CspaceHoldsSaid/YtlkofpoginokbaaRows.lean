/-
  No cell of these rows narrows 'for every input' (looked for: loops, veiled, ifaces, maps, wideKeys, modest, calm, conditions, laid).
  DERIVED. THE GIVEN ROWS OF THIS SEAT. 6 by the template 'for every input the law returns true; each argument reads behind the call as it read before'; 0 by the template 'total and deterministic' (their statements: YtlkofpoginokbaaTotals.lean).
  GIVEN WITH THE SEED: the statements are not yours to turn. If you find one false, say at which input.
  Laid BY PROGRAM, IN A SANDBOX (cutbox-rows.mjs): the forced cells as the released guide's own fill.sh prints them over the translation b8d91babd296726a… (all of the seat's roots in one cut). By AI agents, Wed Nov 11 2026. No macro, syntax, notation, axiom, sorry.
-/
import Derived.Test.YtlkofpoginokbaaChecked
import GoSem.Claim
import GoSem.ClaimJoined
import GoSem.ClaimMapViews
import Derived.JoinedTies
import Derived.KernelRfl
namespace Go.Proofs.Ytlkofpoginokbaa
/- THE CELL 'sum', in the pinned program and in every row, IS THE sha256 OF THE DUMP (.gsa) THAT YtlkofpoginokbaaProg.lean LOADS. Nothing in Lean hashes anything: it is a label: what it is worth is what the hold of that sum in a sandbox is worth. -/
noncomputable def Try.pinned : Pinned := { name := "ytlkofpoginokbaa", sum := "b8d91babd296726a598bbfe66c6894b736624db4fff5181806477ef0f57a0f73", checked := Try.checked }
namespace Rows
def none {H : Type} : Left H := { results := [], args := [] }

/-- 'viceroylaw12.CspaceLocal': WHATEVER THE INPUT: true; the input reads as it did. -/
def cspaceLocalSpec : ChangeSpec := { name := "cspaceLocal", fn := fun _ => fun
  | [d1, d2, d3, d4, d5, d6] => { results := [.lit (.bool true)], args := [d1, d2, d3, d4, d5, d6] }
  | _ => none }
def cspaceLocalRow : OpenClaim := { program := "ytlkofpoginokbaa", sum := "b8d91babd296726a598bbfe66c6894b736624db4fff5181806477ef0f57a0f73", func := "viceroy/viceroylaw12.CspaceLocal", spec := "cspaceLocal", apart := false }
def CspaceLocalSaid : Prop := cspaceLocalRow.holds Try.pinned (OpenSpec.ofChange cspaceLocalSpec)

/-- ITS FALSE NEIGHBOUR: 'it returns false'. Refute it at one input. -/
def cspaceLocalWrong : ChangeSpec := { name := "cspaceLocal", fn := fun _ => fun
  | [d1, d2, d3, d4, d5, d6] => { results := [.lit (.bool false)], args := [d1, d2, d3, d4, d5, d6] }
  | _ => none }
def CspaceLocalWrongFalsely : Prop := cspaceLocalRow.holds Try.pinned (OpenSpec.ofChange cspaceLocalWrong)

/-- 'viceroylaw12.CspaceDeeper': WHATEVER THE INPUT: true; the input reads as it did. -/
def cspaceDeeperSpec : ChangeSpec := { name := "cspaceDeeper", fn := fun _ => fun
  | [d1, d2, d3, d4, d5, d6] => { results := [.lit (.bool true)], args := [d1, d2, d3, d4, d5, d6] }
  | _ => none }
def cspaceDeeperRow : OpenClaim := { program := "ytlkofpoginokbaa", sum := "b8d91babd296726a598bbfe66c6894b736624db4fff5181806477ef0f57a0f73", func := "viceroy/viceroylaw12.CspaceDeeper", spec := "cspaceDeeper", apart := false }
def CspaceDeeperSaid : Prop := cspaceDeeperRow.holds Try.pinned (OpenSpec.ofChange cspaceDeeperSpec)

/-- ITS FALSE NEIGHBOUR: 'it returns false'. Refute it at one input. -/
def cspaceDeeperWrong : ChangeSpec := { name := "cspaceDeeper", fn := fun _ => fun
  | [d1, d2, d3, d4, d5, d6] => { results := [.lit (.bool false)], args := [d1, d2, d3, d4, d5, d6] }
  | _ => none }
def CspaceDeeperWrongFalsely : Prop := cspaceDeeperRow.holds Try.pinned (OpenSpec.ofChange cspaceDeeperWrong)

/-- 'viceroylaw12.CspaceGuards': WHATEVER THE INPUT: true; the input reads as it did. -/
def cspaceGuardsSpec : ChangeSpec := { name := "cspaceGuards", fn := fun _ => fun
  | [d1, d2, d3, d4, d5] => { results := [.lit (.bool true)], args := [d1, d2, d3, d4, d5] }
  | _ => none }
def cspaceGuardsRow : OpenClaim := { program := "ytlkofpoginokbaa", sum := "b8d91babd296726a598bbfe66c6894b736624db4fff5181806477ef0f57a0f73", func := "viceroy/viceroylaw12.CspaceGuards", spec := "cspaceGuards", apart := false }
def CspaceGuardsSaid : Prop := cspaceGuardsRow.holds Try.pinned (OpenSpec.ofChange cspaceGuardsSpec)

/-- ITS FALSE NEIGHBOUR: 'it returns false'. Refute it at one input. -/
def cspaceGuardsWrong : ChangeSpec := { name := "cspaceGuards", fn := fun _ => fun
  | [d1, d2, d3, d4, d5] => { results := [.lit (.bool false)], args := [d1, d2, d3, d4, d5] }
  | _ => none }
def CspaceGuardsWrongFalsely : Prop := cspaceGuardsRow.holds Try.pinned (OpenSpec.ofChange cspaceGuardsWrong)

/-- 'viceroylaw12.CspaceNodes': WHATEVER THE INPUT: true; the input reads as it did. -/
def cspaceNodesSpec : ChangeSpec := { name := "cspaceNodes", fn := fun _ => fun
  | [d1, d2, d3, d4, d5] => { results := [.lit (.bool true)], args := [d1, d2, d3, d4, d5] }
  | _ => none }
def cspaceNodesRow : OpenClaim := { program := "ytlkofpoginokbaa", sum := "b8d91babd296726a598bbfe66c6894b736624db4fff5181806477ef0f57a0f73", func := "viceroy/viceroylaw12.CspaceNodes", spec := "cspaceNodes", apart := false }
def CspaceNodesSaid : Prop := cspaceNodesRow.holds Try.pinned (OpenSpec.ofChange cspaceNodesSpec)

/-- ITS FALSE NEIGHBOUR: 'it returns false'. Refute it at one input. -/
def cspaceNodesWrong : ChangeSpec := { name := "cspaceNodes", fn := fun _ => fun
  | [d1, d2, d3, d4, d5] => { results := [.lit (.bool false)], args := [d1, d2, d3, d4, d5] }
  | _ => none }
def CspaceNodesWrongFalsely : Prop := cspaceNodesRow.holds Try.pinned (OpenSpec.ofChange cspaceNodesWrong)

/-- 'viceroylaw12.CspacePlays': WHATEVER THE INPUT: true; the input reads as it did. -/
def cspacePlaysSpec : ChangeSpec := { name := "cspacePlays", fn := fun _ => fun
  | [d] => { results := [.lit (.bool true)], args := [d] }
  | _ => none }
def cspacePlaysRow : OpenClaim := { program := "ytlkofpoginokbaa", sum := "b8d91babd296726a598bbfe66c6894b736624db4fff5181806477ef0f57a0f73", func := "viceroy/viceroylaw12.CspacePlays", spec := "cspacePlays", unfollowed := true, recurses := true, apart := false }
def CspacePlaysSaid : Prop := cspacePlaysRow.holds Try.pinned (OpenSpec.ofChange cspacePlaysSpec)

/-- ITS FALSE NEIGHBOUR: 'it returns false'. Refute it at one input. -/
def cspacePlaysWrong : ChangeSpec := { name := "cspacePlays", fn := fun _ => fun
  | [d] => { results := [.lit (.bool false)], args := [d] }
  | _ => none }
def CspacePlaysWrongFalsely : Prop := cspacePlaysRow.holds Try.pinned (OpenSpec.ofChange cspacePlaysWrong)

/-- 'viceroylaw12.CspaceHolds': WHATEVER THE INPUT: true; the input reads as it did. -/
def cspaceHoldsSpec : ChangeSpec := { name := "cspaceHolds", fn := fun _ => fun
  | [d1, d2, d3] => { results := [.lit (.bool true)], args := [d1, d2, d3] }
  | _ => none }
def cspaceHoldsRow : OpenClaim := { program := "ytlkofpoginokbaa", sum := "b8d91babd296726a598bbfe66c6894b736624db4fff5181806477ef0f57a0f73", func := "viceroy/viceroylaw12.CspaceHolds", spec := "cspaceHolds", unfollowed := true, recurses := true, apart := false }
def CspaceHoldsSaid : Prop := cspaceHoldsRow.holds Try.pinned (OpenSpec.ofChange cspaceHoldsSpec)

/-- ITS FALSE NEIGHBOUR: 'it returns false'. Refute it at one input. -/
def cspaceHoldsWrong : ChangeSpec := { name := "cspaceHolds", fn := fun _ => fun
  | [d1, d2, d3] => { results := [.lit (.bool false)], args := [d1, d2, d3] }
  | _ => none }
def CspaceHoldsWrongFalsely : Prop := cspaceHoldsRow.holds Try.pinned (OpenSpec.ofChange cspaceHoldsWrong)

/- THE SECOND FORM. 'bulk': how many values and letters a reading holds, each counted each time it is reached (what is shared counts as often as it is met; a slice's spare places count too). A statement '..UptoSaid' is the law's where the arguments, and the package variables that the reading takes, are together of bulk at most 1048576: NARROWER than '..Said'. Prove '..Said' where nothing that the law and all that it calls make is longer than what came in: it says more and counts as full. Else prove '..UptoSaid'. A law counts once. -/
mutual
def uptoBulk {H : Type} : DataW H → Nat
  | .lit (.string bytes) => bytes.length + 1
  | .lit _ => 1
  | .nil => 1
  | .ptr d => uptoBulk d + 1
  | .slice elems spare => uptoBulkAll elems + uptoBulkAll spare + 1
  | .agg parts => uptoBulkAll parts + 1
  | .iface _ d => uptoBulk d + 1
  | .map entries => uptoBulkEntries entries + 1
  | .held _ => 1
def uptoBulkAll {H : Type} : List (DataW H) → Nat
  | [] => 0
  | d :: r => uptoBulk d + uptoBulkAll r
def uptoBulkEntries {H : Type} : List (Lit × DataW H) → Nat
  | [] => 0
  | x :: r => uptoBulkEntry x + uptoBulkEntries r
def uptoBulkEntry {H : Type} : Lit × DataW H → Nat
  | (.string bytes, d) => bytes.length + uptoBulk d + 1
  | (_, d) => uptoBulk d + 1
 end
def uptoSmall : (H : Type) → List (DataW H) → Bool := fun _ ds => decide (uptoBulkAll ds ≤ 1048576)
def OpenSpec.upto (s : _root_.Go.ChangeSpec) : _root_.Go.OpenSpec := { _root_.Go.OpenSpec.ofChange s with cond := some uptoSmall }

/-- 'viceroylaw12.CspaceLocal', WHERE WHAT IT READS IS OF BULK AT MOST 1048576: true; the input reads as it did. -/
def cspaceLocalUptoRow : OpenClaim := { program := "ytlkofpoginokbaa", sum := "b8d91babd296726a598bbfe66c6894b736624db4fff5181806477ef0f57a0f73", func := "viceroy/viceroylaw12.CspaceLocal", spec := "cspaceLocal", apart := false, narrowed := true }
def CspaceLocalUptoSaid : Prop := cspaceLocalUptoRow.holds Try.pinned (OpenSpec.upto cspaceLocalSpec)

/-- 'viceroylaw12.CspaceDeeper', WHERE WHAT IT READS IS OF BULK AT MOST 1048576: true; the input reads as it did. -/
def cspaceDeeperUptoRow : OpenClaim := { program := "ytlkofpoginokbaa", sum := "b8d91babd296726a598bbfe66c6894b736624db4fff5181806477ef0f57a0f73", func := "viceroy/viceroylaw12.CspaceDeeper", spec := "cspaceDeeper", apart := false, narrowed := true }
def CspaceDeeperUptoSaid : Prop := cspaceDeeperUptoRow.holds Try.pinned (OpenSpec.upto cspaceDeeperSpec)

/-- 'viceroylaw12.CspaceGuards', WHERE WHAT IT READS IS OF BULK AT MOST 1048576: true; the input reads as it did. -/
def cspaceGuardsUptoRow : OpenClaim := { program := "ytlkofpoginokbaa", sum := "b8d91babd296726a598bbfe66c6894b736624db4fff5181806477ef0f57a0f73", func := "viceroy/viceroylaw12.CspaceGuards", spec := "cspaceGuards", apart := false, narrowed := true }
def CspaceGuardsUptoSaid : Prop := cspaceGuardsUptoRow.holds Try.pinned (OpenSpec.upto cspaceGuardsSpec)

/-- 'viceroylaw12.CspaceNodes', WHERE WHAT IT READS IS OF BULK AT MOST 1048576: true; the input reads as it did. -/
def cspaceNodesUptoRow : OpenClaim := { program := "ytlkofpoginokbaa", sum := "b8d91babd296726a598bbfe66c6894b736624db4fff5181806477ef0f57a0f73", func := "viceroy/viceroylaw12.CspaceNodes", spec := "cspaceNodes", apart := false, narrowed := true }
def CspaceNodesUptoSaid : Prop := cspaceNodesUptoRow.holds Try.pinned (OpenSpec.upto cspaceNodesSpec)

/-- 'viceroylaw12.CspacePlays', WHERE WHAT IT READS IS OF BULK AT MOST 1048576: true; the input reads as it did. -/
def cspacePlaysUptoRow : OpenClaim := { program := "ytlkofpoginokbaa", sum := "b8d91babd296726a598bbfe66c6894b736624db4fff5181806477ef0f57a0f73", func := "viceroy/viceroylaw12.CspacePlays", spec := "cspacePlays", unfollowed := true, recurses := true, apart := false, narrowed := true }
def CspacePlaysUptoSaid : Prop := cspacePlaysUptoRow.holds Try.pinned (OpenSpec.upto cspacePlaysSpec)

/-- 'viceroylaw12.CspaceHolds', WHERE WHAT IT READS IS OF BULK AT MOST 1048576: true; the input reads as it did. -/
def cspaceHoldsUptoRow : OpenClaim := { program := "ytlkofpoginokbaa", sum := "b8d91babd296726a598bbfe66c6894b736624db4fff5181806477ef0f57a0f73", func := "viceroy/viceroylaw12.CspaceHolds", spec := "cspaceHolds", unfollowed := true, recurses := true, apart := false, narrowed := true }
def CspaceHoldsUptoSaid : Prop := cspaceHoldsUptoRow.holds Try.pinned (OpenSpec.upto cspaceHoldsSpec)

end Rows
end Go.Proofs.Ytlkofpoginokbaa
