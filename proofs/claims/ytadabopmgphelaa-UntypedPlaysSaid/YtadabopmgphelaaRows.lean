/-
  No cell of these rows narrows 'for every input' (looked for: loops, veiled, ifaces, maps, wideKeys, modest, calm, conditions, laid).
  DERIVED. THE GIVEN ROWS OF THIS SEAT. 6 by the template 'for every input the law returns true; each argument reads behind the call as it read before'; 0 by the template 'total and deterministic' (their statements: YtadabopmgphelaaTotals.lean).
  GIVEN WITH THE SEED: the statements are not yours to turn. If you find one false, say at which input.
  Laid BY PROGRAM, IN A SANDBOX (cutbox-rows.mjs): the forced cells as the released guide's own fill.sh prints them over the translation e9cbccaf8f3b8bd8… (all of the seat's roots in one cut). By AI agents, Wed Nov 11 2026. No macro, syntax, notation, axiom, sorry.
-/
import Derived.Test.YtadabopmgphelaaChecked
import GoSem.Claim
import GoSem.ClaimJoined
import GoSem.ClaimMapViews
import Derived.JoinedTies
import Derived.KernelRfl
namespace Go.Proofs.Ytadabopmgphelaa
/- THE CELL 'sum', in the pinned program and in every row, IS THE sha256 OF THE DUMP (.gsa) THAT YtadabopmgphelaaProg.lean LOADS. Nothing in Lean hashes anything: it is a label: what it is worth is what the hold of that sum in a sandbox is worth. -/
noncomputable def Try.pinned : Pinned := { name := "ytadabopmgphelaa", sum := "e9cbccaf8f3b8bd8edb685beaa7a171571ab4a7e4e7bb40e1e9f048349f45a84", checked := Try.checked }
namespace Rows
def none {H : Type} : Left H := { results := [], args := [] }

/-- 'viceroylaw14.UntypedSizes': WHATEVER THE INPUT: true; the input reads as it did. -/
def untypedSizesSpec : ChangeSpec := { name := "untypedSizes", fn := fun _ => fun
  | [d1, d2] => { results := [.lit (.bool true)], args := [d1, d2] }
  | _ => none }
def untypedSizesRow : OpenClaim := { program := "ytadabopmgphelaa", sum := "e9cbccaf8f3b8bd8edb685beaa7a171571ab4a7e4e7bb40e1e9f048349f45a84", func := "viceroy/viceroylaw14.UntypedSizes", spec := "untypedSizes", apart := false }
def UntypedSizesSaid : Prop := untypedSizesRow.holds Try.pinned (OpenSpec.ofChange untypedSizesSpec)

/-- ITS FALSE NEIGHBOUR: 'it returns false'. Refute it at one input. -/
def untypedSizesWrong : ChangeSpec := { name := "untypedSizes", fn := fun _ => fun
  | [d1, d2] => { results := [.lit (.bool false)], args := [d1, d2] }
  | _ => none }
def UntypedSizesWrongFalsely : Prop := untypedSizesRow.holds Try.pinned (OpenSpec.ofChange untypedSizesWrong)

/-- 'viceroylaw14.UntypedApart': WHATEVER THE INPUT: true; the input reads as it did. -/
def untypedApartSpec : ChangeSpec := { name := "untypedApart", fn := fun _ => fun
  | [d1, d2] => { results := [.lit (.bool true)], args := [d1, d2] }
  | _ => none }
def untypedApartRow : OpenClaim := { program := "ytadabopmgphelaa", sum := "e9cbccaf8f3b8bd8edb685beaa7a171571ab4a7e4e7bb40e1e9f048349f45a84", func := "viceroy/viceroylaw14.UntypedApart", spec := "untypedApart", apart := false }
def UntypedApartSaid : Prop := untypedApartRow.holds Try.pinned (OpenSpec.ofChange untypedApartSpec)

/-- ITS FALSE NEIGHBOUR: 'it returns false'. Refute it at one input. -/
def untypedApartWrong : ChangeSpec := { name := "untypedApart", fn := fun _ => fun
  | [d1, d2] => { results := [.lit (.bool false)], args := [d1, d2] }
  | _ => none }
def UntypedApartWrongFalsely : Prop := untypedApartRow.holds Try.pinned (OpenSpec.ofChange untypedApartWrong)

/-- 'viceroylaw14.UntypedFull': WHATEVER THE INPUT: true; the input reads as it did. -/
def untypedFullSpec : ChangeSpec := { name := "untypedFull", fn := fun _ => fun
  | [d1, d2] => { results := [.lit (.bool true)], args := [d1, d2] }
  | _ => none }
def untypedFullRow : OpenClaim := { program := "ytadabopmgphelaa", sum := "e9cbccaf8f3b8bd8edb685beaa7a171571ab4a7e4e7bb40e1e9f048349f45a84", func := "viceroy/viceroylaw14.UntypedFull", spec := "untypedFull", apart := false }
def UntypedFullSaid : Prop := untypedFullRow.holds Try.pinned (OpenSpec.ofChange untypedFullSpec)

/-- ITS FALSE NEIGHBOUR: 'it returns false'. Refute it at one input. -/
def untypedFullWrong : ChangeSpec := { name := "untypedFull", fn := fun _ => fun
  | [d1, d2] => { results := [.lit (.bool false)], args := [d1, d2] }
  | _ => none }
def UntypedFullWrongFalsely : Prop := untypedFullRow.holds Try.pinned (OpenSpec.ofChange untypedFullWrong)

/-- 'viceroylaw14.UntypedResets': WHATEVER THE INPUT: true; the input reads as it did. -/
def untypedResetsSpec : ChangeSpec := { name := "untypedResets", fn := fun _ => fun
  | [d1, d2, d3] => { results := [.lit (.bool true)], args := [d1, d2, d3] }
  | _ => none }
def untypedResetsRow : OpenClaim := { program := "ytadabopmgphelaa", sum := "e9cbccaf8f3b8bd8edb685beaa7a171571ab4a7e4e7bb40e1e9f048349f45a84", func := "viceroy/viceroylaw14.UntypedResets", spec := "untypedResets", apart := false }
def UntypedResetsSaid : Prop := untypedResetsRow.holds Try.pinned (OpenSpec.ofChange untypedResetsSpec)

/-- ITS FALSE NEIGHBOUR: 'it returns false'. Refute it at one input. -/
def untypedResetsWrong : ChangeSpec := { name := "untypedResets", fn := fun _ => fun
  | [d1, d2, d3] => { results := [.lit (.bool false)], args := [d1, d2, d3] }
  | _ => none }
def UntypedResetsWrongFalsely : Prop := untypedResetsRow.holds Try.pinned (OpenSpec.ofChange untypedResetsWrong)

/-- 'viceroylaw14.UntypedRooms': WHATEVER THE INPUT: true; the input reads as it did. -/
def untypedRoomsSpec : ChangeSpec := { name := "untypedRooms", fn := fun _ => fun
  | [d1, d2] => { results := [.lit (.bool true)], args := [d1, d2] }
  | _ => none }
def untypedRoomsRow : OpenClaim := { program := "ytadabopmgphelaa", sum := "e9cbccaf8f3b8bd8edb685beaa7a171571ab4a7e4e7bb40e1e9f048349f45a84", func := "viceroy/viceroylaw14.UntypedRooms", spec := "untypedRooms", apart := false }
def UntypedRoomsSaid : Prop := untypedRoomsRow.holds Try.pinned (OpenSpec.ofChange untypedRoomsSpec)

/-- ITS FALSE NEIGHBOUR: 'it returns false'. Refute it at one input. -/
def untypedRoomsWrong : ChangeSpec := { name := "untypedRooms", fn := fun _ => fun
  | [d1, d2] => { results := [.lit (.bool false)], args := [d1, d2] }
  | _ => none }
def UntypedRoomsWrongFalsely : Prop := untypedRoomsRow.holds Try.pinned (OpenSpec.ofChange untypedRoomsWrong)

/-- 'viceroylaw14.UntypedPlays': WHATEVER THE INPUT: true; the input reads as it did. -/
def untypedPlaysSpec : ChangeSpec := { name := "untypedPlays", fn := fun _ => fun
  | [d] => { results := [.lit (.bool true)], args := [d] }
  | _ => none }
def untypedPlaysRow : OpenClaim := { program := "ytadabopmgphelaa", sum := "e9cbccaf8f3b8bd8edb685beaa7a171571ab4a7e4e7bb40e1e9f048349f45a84", func := "viceroy/viceroylaw14.UntypedPlays", spec := "untypedPlays", unfollowed := true, recurses := true, apart := false }
def UntypedPlaysSaid : Prop := untypedPlaysRow.holds Try.pinned (OpenSpec.ofChange untypedPlaysSpec)

/-- ITS FALSE NEIGHBOUR: 'it returns false'. Refute it at one input. -/
def untypedPlaysWrong : ChangeSpec := { name := "untypedPlays", fn := fun _ => fun
  | [d] => { results := [.lit (.bool false)], args := [d] }
  | _ => none }
def UntypedPlaysWrongFalsely : Prop := untypedPlaysRow.holds Try.pinned (OpenSpec.ofChange untypedPlaysWrong)

/- THE SECOND FORM. 'bulk': how many values and letters a reading holds, each counted each time it is reached (what is shared counts as often as it is met; a slice's spare places count too). A statement '..UptoSaid' is the law's where the arguments, and the package variables that the reading takes, are together of bulk at most 1048576: NARROWER than '..Said'. Prove '..Said' where nothing that the law and all that it calls make is longer than what came in: it says more and counts as full. Else prove '..UptoSaid'. A law counts once. -/
mutual
def uptoBulk {H : Type} : DataW H → Nat
  | .lit (.string bytes) => bytes.length + 1
  | .lit _ => 1
  | .nil => 1
  | .ptr d => uptoBulk d + 1
  | .slice elems spare => uptoBulkAll elems + uptoBulkAll spare + 1
  | .agg parts => uptoBulkAll parts + 1
  | .iface _ d => uptoBulk d + 1
  | .map entries => uptoBulkEntries entries + 1
  | .held _ => 1
def uptoBulkAll {H : Type} : List (DataW H) → Nat
  | [] => 0
  | d :: r => uptoBulk d + uptoBulkAll r
def uptoBulkEntries {H : Type} : List (Lit × DataW H) → Nat
  | [] => 0
  | x :: r => uptoBulkEntry x + uptoBulkEntries r
def uptoBulkEntry {H : Type} : Lit × DataW H → Nat
  | (.string bytes, d) => bytes.length + uptoBulk d + 1
  | (_, d) => uptoBulk d + 1
 end
def uptoSmall : (H : Type) → List (DataW H) → Bool := fun _ ds => decide (uptoBulkAll ds ≤ 1048576)
def OpenSpec.upto (s : _root_.Go.ChangeSpec) : _root_.Go.OpenSpec := { _root_.Go.OpenSpec.ofChange s with cond := some uptoSmall }

/-- 'viceroylaw14.UntypedSizes', WHERE WHAT IT READS IS OF BULK AT MOST 1048576: true; the input reads as it did. -/
def untypedSizesUptoRow : OpenClaim := { program := "ytadabopmgphelaa", sum := "e9cbccaf8f3b8bd8edb685beaa7a171571ab4a7e4e7bb40e1e9f048349f45a84", func := "viceroy/viceroylaw14.UntypedSizes", spec := "untypedSizes", apart := false, narrowed := true }
def UntypedSizesUptoSaid : Prop := untypedSizesUptoRow.holds Try.pinned (OpenSpec.upto untypedSizesSpec)

/-- 'viceroylaw14.UntypedApart', WHERE WHAT IT READS IS OF BULK AT MOST 1048576: true; the input reads as it did. -/
def untypedApartUptoRow : OpenClaim := { program := "ytadabopmgphelaa", sum := "e9cbccaf8f3b8bd8edb685beaa7a171571ab4a7e4e7bb40e1e9f048349f45a84", func := "viceroy/viceroylaw14.UntypedApart", spec := "untypedApart", apart := false, narrowed := true }
def UntypedApartUptoSaid : Prop := untypedApartUptoRow.holds Try.pinned (OpenSpec.upto untypedApartSpec)

/-- 'viceroylaw14.UntypedFull', WHERE WHAT IT READS IS OF BULK AT MOST 1048576: true; the input reads as it did. -/
def untypedFullUptoRow : OpenClaim := { program := "ytadabopmgphelaa", sum := "e9cbccaf8f3b8bd8edb685beaa7a171571ab4a7e4e7bb40e1e9f048349f45a84", func := "viceroy/viceroylaw14.UntypedFull", spec := "untypedFull", apart := false, narrowed := true }
def UntypedFullUptoSaid : Prop := untypedFullUptoRow.holds Try.pinned (OpenSpec.upto untypedFullSpec)

/-- 'viceroylaw14.UntypedResets', WHERE WHAT IT READS IS OF BULK AT MOST 1048576: true; the input reads as it did. -/
def untypedResetsUptoRow : OpenClaim := { program := "ytadabopmgphelaa", sum := "e9cbccaf8f3b8bd8edb685beaa7a171571ab4a7e4e7bb40e1e9f048349f45a84", func := "viceroy/viceroylaw14.UntypedResets", spec := "untypedResets", apart := false, narrowed := true }
def UntypedResetsUptoSaid : Prop := untypedResetsUptoRow.holds Try.pinned (OpenSpec.upto untypedResetsSpec)

/-- 'viceroylaw14.UntypedRooms', WHERE WHAT IT READS IS OF BULK AT MOST 1048576: true; the input reads as it did. -/
def untypedRoomsUptoRow : OpenClaim := { program := "ytadabopmgphelaa", sum := "e9cbccaf8f3b8bd8edb685beaa7a171571ab4a7e4e7bb40e1e9f048349f45a84", func := "viceroy/viceroylaw14.UntypedRooms", spec := "untypedRooms", apart := false, narrowed := true }
def UntypedRoomsUptoSaid : Prop := untypedRoomsUptoRow.holds Try.pinned (OpenSpec.upto untypedRoomsSpec)

/-- 'viceroylaw14.UntypedPlays', WHERE WHAT IT READS IS OF BULK AT MOST 1048576: true; the input reads as it did. -/
def untypedPlaysUptoRow : OpenClaim := { program := "ytadabopmgphelaa", sum := "e9cbccaf8f3b8bd8edb685beaa7a171571ab4a7e4e7bb40e1e9f048349f45a84", func := "viceroy/viceroylaw14.UntypedPlays", spec := "untypedPlays", unfollowed := true, recurses := true, apart := false, narrowed := true }
def UntypedPlaysUptoSaid : Prop := untypedPlaysUptoRow.holds Try.pinned (OpenSpec.upto untypedPlaysSpec)

end Rows
end Go.Proofs.Ytadabopmgphelaa
