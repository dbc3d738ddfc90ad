/-
  No cell of these rows narrows 'for every input' (looked for: loops, veiled, ifaces, maps, wideKeys, modest, calm, conditions, laid).
  DERIVED. THE GIVEN ROWS OF THIS SEAT. 5 by the template 'for every input the law returns true; each argument reads behind the call as it read before'; 0 by the template 'total and deterministic' (their statements: YtehnbbabjnibkaaTotals.lean).
  GIVEN WITH THE SEED: the statements are not yours to turn. If you find one false, say at which input.
  Laid BY PROGRAM, IN A SANDBOX (cutbox-rows.mjs): the forced cells as the released guide's own fill.sh prints them over the translation da277baa9c1c5ed1… (all of the seat's roots in one cut). By AI agents, Wed Nov 11 2026. No macro, syntax, notation, axiom, sorry.
-/
import Derived.Test.YtehnbbabjnibkaaChecked
import GoSem.Claim
import GoSem.ClaimJoined
import GoSem.ClaimMapViews
import Derived.JoinedTies
import Derived.KernelRfl
namespace Go.Proofs.Ytehnbbabjnibkaa
/- THE CELL 'sum', in the pinned program and in every row, IS THE sha256 OF THE DUMP (.gsa) THAT YtehnbbabjnibkaaProg.lean LOADS. Nothing in Lean hashes anything: it is a label: what it is worth is what the hold of that sum in a sandbox is worth. -/
noncomputable def Try.pinned : Pinned := { name := "ytehnbbabjnibkaa", sum := "da277baa9c1c5ed1bb5fe30d57391dc401698af2d530458682ae8ee1093d5349", checked := Try.checked }
namespace Rows
def none {H : Type} : Left H := { results := [], args := [] }

/-- 'lockgatelaw17.SpaceTells': WHATEVER THE INPUT: true; the input reads as it did. -/
def spaceTellsSpec : ChangeSpec := { name := "spaceTells", fn := fun _ => fun
  | [d1, d2, d3] => { results := [.lit (.bool true)], args := [d1, d2, d3] }
  | _ => none }
def spaceTellsRow : OpenClaim := { program := "ytehnbbabjnibkaa", sum := "da277baa9c1c5ed1bb5fe30d57391dc401698af2d530458682ae8ee1093d5349", func := "lockgate/lockgatelaw17.SpaceTells", spec := "spaceTells", unfollowed := true, recurses := true, apart := false }
def SpaceTellsSaid : Prop := spaceTellsRow.holds Try.pinned (OpenSpec.ofChange spaceTellsSpec)

/-- ITS FALSE NEIGHBOUR: 'it returns false'. Refute it at one input. -/
def spaceTellsWrong : ChangeSpec := { name := "spaceTells", fn := fun _ => fun
  | [d1, d2, d3] => { results := [.lit (.bool false)], args := [d1, d2, d3] }
  | _ => none }
def SpaceTellsWrongFalsely : Prop := spaceTellsRow.holds Try.pinned (OpenSpec.ofChange spaceTellsWrong)

/-- 'lockgatelaw17.SpaceChanges': WHATEVER THE INPUT: true; the input reads as it did. -/
def spaceChangesSpec : ChangeSpec := { name := "spaceChanges", fn := fun _ => fun
  | [d1, d2, d3] => { results := [.lit (.bool true)], args := [d1, d2, d3] }
  | _ => none }
def spaceChangesRow : OpenClaim := { program := "ytehnbbabjnibkaa", sum := "da277baa9c1c5ed1bb5fe30d57391dc401698af2d530458682ae8ee1093d5349", func := "lockgate/lockgatelaw17.SpaceChanges", spec := "spaceChanges", unfollowed := true, recurses := true, apart := false }
def SpaceChangesSaid : Prop := spaceChangesRow.holds Try.pinned (OpenSpec.ofChange spaceChangesSpec)

/-- ITS FALSE NEIGHBOUR: 'it returns false'. Refute it at one input. -/
def spaceChangesWrong : ChangeSpec := { name := "spaceChanges", fn := fun _ => fun
  | [d1, d2, d3] => { results := [.lit (.bool false)], args := [d1, d2, d3] }
  | _ => none }
def SpaceChangesWrongFalsely : Prop := spaceChangesRow.holds Try.pinned (OpenSpec.ofChange spaceChangesWrong)

/-- 'lockgatelaw17.SpaceTurns': WHATEVER THE INPUT: true; the input reads as it did. -/
def spaceTurnsSpec : ChangeSpec := { name := "spaceTurns", fn := fun _ => fun
  | [d1, d2] => { results := [.lit (.bool true)], args := [d1, d2] }
  | _ => none }
def spaceTurnsRow : OpenClaim := { program := "ytehnbbabjnibkaa", sum := "da277baa9c1c5ed1bb5fe30d57391dc401698af2d530458682ae8ee1093d5349", func := "lockgate/lockgatelaw17.SpaceTurns", spec := "spaceTurns", unfollowed := true, recurses := true, apart := false }
def SpaceTurnsSaid : Prop := spaceTurnsRow.holds Try.pinned (OpenSpec.ofChange spaceTurnsSpec)

/-- ITS FALSE NEIGHBOUR: 'it returns false'. Refute it at one input. -/
def spaceTurnsWrong : ChangeSpec := { name := "spaceTurns", fn := fun _ => fun
  | [d1, d2] => { results := [.lit (.bool false)], args := [d1, d2] }
  | _ => none }
def SpaceTurnsWrongFalsely : Prop := spaceTurnsRow.holds Try.pinned (OpenSpec.ofChange spaceTurnsWrong)

/-- 'lockgatelaw17.SpaceZone': WHATEVER THE INPUT: true; the input reads as it did. -/
def spaceZoneSpec : ChangeSpec := { name := "spaceZone", fn := fun _ => fun
  | [d1, d2, d3] => { results := [.lit (.bool true)], args := [d1, d2, d3] }
  | _ => none }
def spaceZoneRow : OpenClaim := { program := "ytehnbbabjnibkaa", sum := "da277baa9c1c5ed1bb5fe30d57391dc401698af2d530458682ae8ee1093d5349", func := "lockgate/lockgatelaw17.SpaceZone", spec := "spaceZone", unfollowed := true, recurses := true, apart := false }
def SpaceZoneSaid : Prop := spaceZoneRow.holds Try.pinned (OpenSpec.ofChange spaceZoneSpec)

/-- ITS FALSE NEIGHBOUR: 'it returns false'. Refute it at one input. -/
def spaceZoneWrong : ChangeSpec := { name := "spaceZone", fn := fun _ => fun
  | [d1, d2, d3] => { results := [.lit (.bool false)], args := [d1, d2, d3] }
  | _ => none }
def SpaceZoneWrongFalsely : Prop := spaceZoneRow.holds Try.pinned (OpenSpec.ofChange spaceZoneWrong)

/-- 'lockgatelaw17.SpaceOrder': WHATEVER THE INPUT: true; the input reads as it did. -/
def spaceOrderSpec : ChangeSpec := { name := "spaceOrder", fn := fun _ => fun
  | [d1, d2] => { results := [.lit (.bool true)], args := [d1, d2] }
  | _ => none }
def spaceOrderRow : OpenClaim := { program := "ytehnbbabjnibkaa", sum := "da277baa9c1c5ed1bb5fe30d57391dc401698af2d530458682ae8ee1093d5349", func := "lockgate/lockgatelaw17.SpaceOrder", spec := "spaceOrder", unfollowed := true, recurses := true, apart := false }
def SpaceOrderSaid : Prop := spaceOrderRow.holds Try.pinned (OpenSpec.ofChange spaceOrderSpec)

/-- ITS FALSE NEIGHBOUR: 'it returns false'. Refute it at one input. -/
def spaceOrderWrong : ChangeSpec := { name := "spaceOrder", fn := fun _ => fun
  | [d1, d2] => { results := [.lit (.bool false)], args := [d1, d2] }
  | _ => none }
def SpaceOrderWrongFalsely : Prop := spaceOrderRow.holds Try.pinned (OpenSpec.ofChange spaceOrderWrong)

/- THE SECOND FORM. 'bulk': how many values and letters a reading holds, each counted each time it is reached (what is shared counts as often as it is met; a slice's spare places count too). A statement '..UptoSaid' is the law's where the arguments, and the package variables that the reading takes, are together of bulk at most 1048576: NARROWER than '..Said'. Prove '..Said' where nothing that the law and all that it calls make is longer than what came in: it says more and counts as full. Else prove '..UptoSaid'. A law counts once. -/
mutual
def uptoBulk {H : Type} : DataW H → Nat
  | .lit (.string bytes) => bytes.length + 1
  | .lit _ => 1
  | .nil => 1
  | .ptr d => uptoBulk d + 1
  | .slice elems spare => uptoBulkAll elems + uptoBulkAll spare + 1
  | .agg parts => uptoBulkAll parts + 1
  | .iface _ d => uptoBulk d + 1
  | .map entries => uptoBulkEntries entries + 1
  | .held _ => 1
def uptoBulkAll {H : Type} : List (DataW H) → Nat
  | [] => 0
  | d :: r => uptoBulk d + uptoBulkAll r
def uptoBulkEntries {H : Type} : List (Lit × DataW H) → Nat
  | [] => 0
  | x :: r => uptoBulkEntry x + uptoBulkEntries r
def uptoBulkEntry {H : Type} : Lit × DataW H → Nat
  | (.string bytes, d) => bytes.length + uptoBulk d + 1
  | (_, d) => uptoBulk d + 1
 end
def uptoSmall : (H : Type) → List (DataW H) → Bool := fun _ ds => decide (uptoBulkAll ds ≤ 1048576)
def OpenSpec.upto (s : _root_.Go.ChangeSpec) : _root_.Go.OpenSpec := { _root_.Go.OpenSpec.ofChange s with cond := some uptoSmall }

/-- 'lockgatelaw17.SpaceTells', WHERE WHAT IT READS IS OF BULK AT MOST 1048576: true; the input reads as it did. -/
def spaceTellsUptoRow : OpenClaim := { program := "ytehnbbabjnibkaa", sum := "da277baa9c1c5ed1bb5fe30d57391dc401698af2d530458682ae8ee1093d5349", func := "lockgate/lockgatelaw17.SpaceTells", spec := "spaceTells", unfollowed := true, recurses := true, apart := false, narrowed := true }
def SpaceTellsUptoSaid : Prop := spaceTellsUptoRow.holds Try.pinned (OpenSpec.upto spaceTellsSpec)

/-- 'lockgatelaw17.SpaceChanges', WHERE WHAT IT READS IS OF BULK AT MOST 1048576: true; the input reads as it did. -/
def spaceChangesUptoRow : OpenClaim := { program := "ytehnbbabjnibkaa", sum := "da277baa9c1c5ed1bb5fe30d57391dc401698af2d530458682ae8ee1093d5349", func := "lockgate/lockgatelaw17.SpaceChanges", spec := "spaceChanges", unfollowed := true, recurses := true, apart := false, narrowed := true }
def SpaceChangesUptoSaid : Prop := spaceChangesUptoRow.holds Try.pinned (OpenSpec.upto spaceChangesSpec)

/-- 'lockgatelaw17.SpaceTurns', WHERE WHAT IT READS IS OF BULK AT MOST 1048576: true; the input reads as it did. -/
def spaceTurnsUptoRow : OpenClaim := { program := "ytehnbbabjnibkaa", sum := "da277baa9c1c5ed1bb5fe30d57391dc401698af2d530458682ae8ee1093d5349", func := "lockgate/lockgatelaw17.SpaceTurns", spec := "spaceTurns", unfollowed := true, recurses := true, apart := false, narrowed := true }
def SpaceTurnsUptoSaid : Prop := spaceTurnsUptoRow.holds Try.pinned (OpenSpec.upto spaceTurnsSpec)

/-- 'lockgatelaw17.SpaceZone', WHERE WHAT IT READS IS OF BULK AT MOST 1048576: true; the input reads as it did. -/
def spaceZoneUptoRow : OpenClaim := { program := "ytehnbbabjnibkaa", sum := "da277baa9c1c5ed1bb5fe30d57391dc401698af2d530458682ae8ee1093d5349", func := "lockgate/lockgatelaw17.SpaceZone", spec := "spaceZone", unfollowed := true, recurses := true, apart := false, narrowed := true }
def SpaceZoneUptoSaid : Prop := spaceZoneUptoRow.holds Try.pinned (OpenSpec.upto spaceZoneSpec)

/-- 'lockgatelaw17.SpaceOrder', WHERE WHAT IT READS IS OF BULK AT MOST 1048576: true; the input reads as it did. -/
def spaceOrderUptoRow : OpenClaim := { program := "ytehnbbabjnibkaa", sum := "da277baa9c1c5ed1bb5fe30d57391dc401698af2d530458682ae8ee1093d5349", func := "lockgate/lockgatelaw17.SpaceOrder", spec := "spaceOrder", unfollowed := true, recurses := true, apart := false, narrowed := true }
def SpaceOrderUptoSaid : Prop := spaceOrderUptoRow.holds Try.pinned (OpenSpec.upto spaceOrderSpec)

end Rows
end Go.Proofs.Ytehnbbabjnibkaa
