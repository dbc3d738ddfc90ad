/-
  NARROWER THAN 'FOR EVERY INPUT', by the rows' own cells (each row's printed sentence says how): EntryNames: laid · EntryPaths: laid · EntryZones: laid · EntryOne: laid · EntryBytes: laid · EntryOrder: laid · EntryKeeps: laid.
  DERIVED. THE GIVEN ROWS OF THIS SEAT. 7 by the template 'for every input the law returns true; each argument reads behind the call as it read before'; 0 by the template 'total and deterministic' (their statements: YtgmbmkjdfmoanaaDoorTotals.lean).
  GIVEN WITH THE SEED: the statements are not yours to turn. If you find one false, say at which input.
  Laid BY PROGRAM, IN A SANDBOX (cutbox-rows.mjs): the forced cells as the released guide's own fill.sh prints them over the translation da33cd418efcf277… (all of the seat's roots in one cut). By AI agents, Wed Nov 11 2026. No macro, syntax, notation, axiom, sorry.
-/
import Derived.Test.YtgmbmkjdfmoanaaDoorChecked
import GoSem.PinnedTables
import GoSem.Claim
import GoSem.ClaimJoined
import GoSem.ClaimMapViews
import Derived.JoinedTies
import Derived.KernelRfl
namespace Go.Proofs.YtgmbmkjdfmoanaaDoor
/- THE CELL 'sum', in the pinned program and in every row, IS THE sha256 OF THE DUMP (.gsa) THAT YtgmbmkjdfmoanaaDoorProg.lean LOADS. Nothing in Lean hashes anything: it is a label: what it is worth is what the hold of that sum in a sandbox is worth. -/
noncomputable def Tryd.pinned : Pinned := { name := "ytgmbmkjdfmoanaadoor", sum := "da33cd418efcf2775842f8e43183cddcedfce99c26ecab33de9b3e36263bc7df", checked := Tryd.checked }
namespace Rows
def none {H : Type} : Left H := { results := [], args := [] }

/- WHAT THE LISTED PACKAGE-LEVEL VARIABLES READ AS WHEN THE CALL BEGINS. Each datum BY PROGRAM (the guide's laid-datum.mjs) off the statement by which the dump's own 'gosem.cut.vars' lays the variable. In a bare row this is a premise. The card (YtgmbmkjdfmoanaaDoorCards.lean) ties it to the program's text. -/
def laid_unicode_utf8_acceptRanges {H : Type} : DataW H := .agg [.agg [.lit (.int .u8 128), .lit (.int .u8 191)], .agg [.lit (.int .u8 160), .lit (.int .u8 191)], .agg [.lit (.int .u8 128), .lit (.int .u8 159)], .agg [.lit (.int .u8 144), .lit (.int .u8 191)], .agg [.lit (.int .u8 128), .lit (.int .u8 143)], .agg [.lit (.int .u8 0), .lit (.int .u8 0)], .agg [.lit (.int .u8 0), .lit (.int .u8 0)], .agg [.lit (.int .u8 0), .lit (.int .u8 0)], .agg [.lit (.int .u8 0), .lit (.int .u8 0)], .agg [.lit (.int .u8 0), .lit (.int .u8 0)], .agg [.lit (.int .u8 0), .lit (.int .u8 0)], .agg [.lit (.int .u8 0), .lit (.int .u8 0)], .agg [.lit (.int .u8 0), .lit (.int .u8 0)], .agg [.lit (.int .u8 0), .lit (.int .u8 0)], .agg [.lit (.int .u8 0), .lit (.int .u8 0)], .agg [.lit (.int .u8 0), .lit (.int .u8 0)]]
/-- One of Go's own tables, pinned by name: the form's constant. -/
def laid_unicode_utf8_first : DataW Unit := Go.Pinned.utf8First

/-- 'lockgatelaw15.EntryNames': WHATEVER THE INPUT: true; the input reads as it did. -/
def entryNamesSpec : ChangeSpec := { name := "entryNames", fn := fun _ => fun
  | [d1, d2] => { results := [.lit (.bool true)], args := [d1, d2] }
  | _ => none }
def entryNamesRow : OpenClaim := { program := "ytgmbmkjdfmoanaadoor", sum := "da33cd418efcf2775842f8e43183cddcedfce99c26ecab33de9b3e36263bc7df", func := "lockgate/lockgatelaw15.EntryNames", spec := "entryNames", inPlace := ["internal/bytealg.CountString", "internal/bytealg.IndexByteString", "internal/bytealg.IndexString"], unfollowed := true, recurses := true, named := ["unicode/utf8.first", "unicode/utf8.acceptRanges", "internal/bytealg.MaxLen"], apart := false, laid := [("unicode/utf8.acceptRanges", laid_unicode_utf8_acceptRanges), ("unicode/utf8.first", laid_unicode_utf8_first)] }
def EntryNamesSaid : Prop := entryNamesRow.holds Tryd.pinned (OpenSpec.ofChange entryNamesSpec)

/-- ITS FALSE NEIGHBOUR: 'it returns false'. Refute it at one input. -/
def entryNamesWrong : ChangeSpec := { name := "entryNames", fn := fun _ => fun
  | [d1, d2] => { results := [.lit (.bool false)], args := [d1, d2] }
  | _ => none }
def EntryNamesWrongFalsely : Prop := entryNamesRow.holds Tryd.pinned (OpenSpec.ofChange entryNamesWrong)

/-- 'lockgatelaw15.EntryPaths': WHATEVER THE INPUT: true; the input reads as it did. -/
def entryPathsSpec : ChangeSpec := { name := "entryPaths", fn := fun _ => fun
  | [d] => { results := [.lit (.bool true)], args := [d] }
  | _ => none }
def entryPathsRow : OpenClaim := { program := "ytgmbmkjdfmoanaadoor", sum := "da33cd418efcf2775842f8e43183cddcedfce99c26ecab33de9b3e36263bc7df", func := "lockgate/lockgatelaw15.EntryPaths", spec := "entryPaths", inPlace := ["internal/bytealg.CountString", "internal/bytealg.IndexByteString", "internal/bytealg.IndexString"], unfollowed := true, recurses := true, named := ["unicode/utf8.first", "unicode/utf8.acceptRanges", "internal/bytealg.MaxLen"], apart := false, laid := [("unicode/utf8.acceptRanges", laid_unicode_utf8_acceptRanges), ("unicode/utf8.first", laid_unicode_utf8_first)] }
def EntryPathsSaid : Prop := entryPathsRow.holds Tryd.pinned (OpenSpec.ofChange entryPathsSpec)

/-- ITS FALSE NEIGHBOUR: 'it returns false'. Refute it at one input. -/
def entryPathsWrong : ChangeSpec := { name := "entryPaths", fn := fun _ => fun
  | [d] => { results := [.lit (.bool false)], args := [d] }
  | _ => none }
def EntryPathsWrongFalsely : Prop := entryPathsRow.holds Tryd.pinned (OpenSpec.ofChange entryPathsWrong)

/-- 'lockgatelaw15.EntryZones': WHATEVER THE INPUT: true; the input reads as it did. -/
def entryZonesSpec : ChangeSpec := { name := "entryZones", fn := fun _ => fun
  | [d1, d2] => { results := [.lit (.bool true)], args := [d1, d2] }
  | _ => none }
def entryZonesRow : OpenClaim := { program := "ytgmbmkjdfmoanaadoor", sum := "da33cd418efcf2775842f8e43183cddcedfce99c26ecab33de9b3e36263bc7df", func := "lockgate/lockgatelaw15.EntryZones", spec := "entryZones", inPlace := ["internal/bytealg.CountString", "internal/bytealg.IndexByteString", "internal/bytealg.IndexString"], unfollowed := true, recurses := true, named := ["unicode/utf8.first", "unicode/utf8.acceptRanges", "internal/bytealg.MaxLen"], apart := false, laid := [("unicode/utf8.acceptRanges", laid_unicode_utf8_acceptRanges), ("unicode/utf8.first", laid_unicode_utf8_first)] }
def EntryZonesSaid : Prop := entryZonesRow.holds Tryd.pinned (OpenSpec.ofChange entryZonesSpec)

/-- ITS FALSE NEIGHBOUR: 'it returns false'. Refute it at one input. -/
def entryZonesWrong : ChangeSpec := { name := "entryZones", fn := fun _ => fun
  | [d1, d2] => { results := [.lit (.bool false)], args := [d1, d2] }
  | _ => none }
def EntryZonesWrongFalsely : Prop := entryZonesRow.holds Tryd.pinned (OpenSpec.ofChange entryZonesWrong)

/-- 'lockgatelaw15.EntryOne': WHATEVER THE INPUT: true; the input reads as it did. -/
def entryOneSpec : ChangeSpec := { name := "entryOne", fn := fun _ => fun
  | [d1, d2] => { results := [.lit (.bool true)], args := [d1, d2] }
  | _ => none }
def entryOneRow : OpenClaim := { program := "ytgmbmkjdfmoanaadoor", sum := "da33cd418efcf2775842f8e43183cddcedfce99c26ecab33de9b3e36263bc7df", func := "lockgate/lockgatelaw15.EntryOne", spec := "entryOne", inPlace := ["internal/bytealg.CountString", "internal/bytealg.IndexByteString", "internal/bytealg.IndexString"], unfollowed := true, recurses := true, named := ["unicode/utf8.first", "unicode/utf8.acceptRanges", "internal/bytealg.MaxLen"], apart := false, laid := [("unicode/utf8.acceptRanges", laid_unicode_utf8_acceptRanges), ("unicode/utf8.first", laid_unicode_utf8_first)] }
def EntryOneSaid : Prop := entryOneRow.holds Tryd.pinned (OpenSpec.ofChange entryOneSpec)

/-- ITS FALSE NEIGHBOUR: 'it returns false'. Refute it at one input. -/
def entryOneWrong : ChangeSpec := { name := "entryOne", fn := fun _ => fun
  | [d1, d2] => { results := [.lit (.bool false)], args := [d1, d2] }
  | _ => none }
def EntryOneWrongFalsely : Prop := entryOneRow.holds Tryd.pinned (OpenSpec.ofChange entryOneWrong)

/-- 'lockgatelaw15.EntryBytes': WHATEVER THE INPUT: true; the input reads as it did. -/
def entryBytesSpec : ChangeSpec := { name := "entryBytes", fn := fun _ => fun
  | [d1, d2] => { results := [.lit (.bool true)], args := [d1, d2] }
  | _ => none }
def entryBytesRow : OpenClaim := { program := "ytgmbmkjdfmoanaadoor", sum := "da33cd418efcf2775842f8e43183cddcedfce99c26ecab33de9b3e36263bc7df", func := "lockgate/lockgatelaw15.EntryBytes", spec := "entryBytes", inPlace := ["internal/bytealg.CountString", "internal/bytealg.IndexByteString", "internal/bytealg.IndexString"], unfollowed := true, recurses := true, named := ["unicode/utf8.first", "unicode/utf8.acceptRanges", "internal/bytealg.MaxLen"], apart := false, laid := [("unicode/utf8.acceptRanges", laid_unicode_utf8_acceptRanges), ("unicode/utf8.first", laid_unicode_utf8_first)] }
def EntryBytesSaid : Prop := entryBytesRow.holds Tryd.pinned (OpenSpec.ofChange entryBytesSpec)

/-- ITS FALSE NEIGHBOUR: 'it returns false'. Refute it at one input. -/
def entryBytesWrong : ChangeSpec := { name := "entryBytes", fn := fun _ => fun
  | [d1, d2] => { results := [.lit (.bool false)], args := [d1, d2] }
  | _ => none }
def EntryBytesWrongFalsely : Prop := entryBytesRow.holds Tryd.pinned (OpenSpec.ofChange entryBytesWrong)

/-- 'lockgatelaw15.EntryOrder': WHATEVER THE INPUT: true; the input reads as it did. -/
def entryOrderSpec : ChangeSpec := { name := "entryOrder", fn := fun _ => fun
  | [d] => { results := [.lit (.bool true)], args := [d] }
  | _ => none }
def entryOrderRow : OpenClaim := { program := "ytgmbmkjdfmoanaadoor", sum := "da33cd418efcf2775842f8e43183cddcedfce99c26ecab33de9b3e36263bc7df", func := "lockgate/lockgatelaw15.EntryOrder", spec := "entryOrder", inPlace := ["internal/bytealg.CountString", "internal/bytealg.IndexByteString", "internal/bytealg.IndexString", "slices.overlaps[lockgate/api.Entry]"], unfollowed := true, recurses := true, named := ["unicode/utf8.first", "unicode/utf8.acceptRanges", "internal/bytealg.MaxLen"], apart := false, laid := [("unicode/utf8.acceptRanges", laid_unicode_utf8_acceptRanges), ("unicode/utf8.first", laid_unicode_utf8_first)] }
def EntryOrderSaid : Prop := entryOrderRow.holds Tryd.pinned (OpenSpec.ofChange entryOrderSpec)

/-- ITS FALSE NEIGHBOUR: 'it returns false'. Refute it at one input. -/
def entryOrderWrong : ChangeSpec := { name := "entryOrder", fn := fun _ => fun
  | [d] => { results := [.lit (.bool false)], args := [d] }
  | _ => none }
def EntryOrderWrongFalsely : Prop := entryOrderRow.holds Tryd.pinned (OpenSpec.ofChange entryOrderWrong)

/-- 'lockgatelaw15.EntryKeeps': WHATEVER THE INPUT: true; the input reads as it did. -/
def entryKeepsSpec : ChangeSpec := { name := "entryKeeps", fn := fun _ => fun
  | [d] => { results := [.lit (.bool true)], args := [d] }
  | _ => none }
def entryKeepsRow : OpenClaim := { program := "ytgmbmkjdfmoanaadoor", sum := "da33cd418efcf2775842f8e43183cddcedfce99c26ecab33de9b3e36263bc7df", func := "lockgate/lockgatelaw15.EntryKeeps", spec := "entryKeeps", inPlace := ["internal/bytealg.CountString", "internal/bytealg.IndexByteString", "internal/bytealg.IndexString", "slices.overlaps[lockgate/api.Entry]"], unfollowed := true, recurses := true, named := ["unicode/utf8.first", "unicode/utf8.acceptRanges", "internal/bytealg.MaxLen"], apart := false, laid := [("unicode/utf8.acceptRanges", laid_unicode_utf8_acceptRanges), ("unicode/utf8.first", laid_unicode_utf8_first)] }
def EntryKeepsSaid : Prop := entryKeepsRow.holds Tryd.pinned (OpenSpec.ofChange entryKeepsSpec)

/-- ITS FALSE NEIGHBOUR: 'it returns false'. Refute it at one input. -/
def entryKeepsWrong : ChangeSpec := { name := "entryKeeps", fn := fun _ => fun
  | [d] => { results := [.lit (.bool false)], args := [d] }
  | _ => none }
def EntryKeepsWrongFalsely : Prop := entryKeepsRow.holds Tryd.pinned (OpenSpec.ofChange entryKeepsWrong)

/- THE SECOND FORM. 'bulk': how many values and letters a reading holds, each counted each time it is reached (what is shared counts as often as it is met; a slice's spare places count too). A statement '..UptoSaid' is the law's where the arguments, and the package variables that the reading takes, are together of bulk at most 1048576: NARROWER than '..Said'. Prove '..Said' where nothing that the law and all that it calls make is longer than what came in: it says more and counts as full. Else prove '..UptoSaid'. A law counts once. -/
mutual
def uptoBulk {H : Type} : DataW H → Nat
  | .lit (.string bytes) => bytes.length + 1
  | .lit _ => 1
  | .nil => 1
  | .ptr d => uptoBulk d + 1
  | .slice elems spare => uptoBulkAll elems + uptoBulkAll spare + 1
  | .agg parts => uptoBulkAll parts + 1
  | .iface _ d => uptoBulk d + 1
  | .map entries => uptoBulkEntries entries + 1
  | .held _ => 1
def uptoBulkAll {H : Type} : List (DataW H) → Nat
  | [] => 0
  | d :: r => uptoBulk d + uptoBulkAll r
def uptoBulkEntries {H : Type} : List (Lit × DataW H) → Nat
  | [] => 0
  | x :: r => uptoBulkEntry x + uptoBulkEntries r
def uptoBulkEntry {H : Type} : Lit × DataW H → Nat
  | (.string bytes, d) => bytes.length + uptoBulk d + 1
  | (_, d) => uptoBulk d + 1
 end
def uptoSmall : (H : Type) → List (DataW H) → Bool := fun _ ds => decide (uptoBulkAll ds ≤ 1048576)
def OpenSpec.upto (s : _root_.Go.ChangeSpec) : _root_.Go.OpenSpec := { _root_.Go.OpenSpec.ofChange s with cond := some uptoSmall }

/-- 'lockgatelaw15.EntryNames', WHERE WHAT IT READS IS OF BULK AT MOST 1048576: true; the input reads as it did. -/
def entryNamesUptoRow : OpenClaim := { program := "ytgmbmkjdfmoanaadoor", sum := "da33cd418efcf2775842f8e43183cddcedfce99c26ecab33de9b3e36263bc7df", func := "lockgate/lockgatelaw15.EntryNames", spec := "entryNames", inPlace := ["internal/bytealg.CountString", "internal/bytealg.IndexByteString", "internal/bytealg.IndexString"], unfollowed := true, recurses := true, named := ["unicode/utf8.first", "unicode/utf8.acceptRanges", "internal/bytealg.MaxLen"], apart := false, laid := [("unicode/utf8.acceptRanges", laid_unicode_utf8_acceptRanges), ("unicode/utf8.first", laid_unicode_utf8_first)], narrowed := true }
def EntryNamesUptoSaid : Prop := entryNamesUptoRow.holds Tryd.pinned (OpenSpec.upto entryNamesSpec)

/-- 'lockgatelaw15.EntryPaths', WHERE WHAT IT READS IS OF BULK AT MOST 1048576: true; the input reads as it did. -/
def entryPathsUptoRow : OpenClaim := { program := "ytgmbmkjdfmoanaadoor", sum := "da33cd418efcf2775842f8e43183cddcedfce99c26ecab33de9b3e36263bc7df", func := "lockgate/lockgatelaw15.EntryPaths", spec := "entryPaths", inPlace := ["internal/bytealg.CountString", "internal/bytealg.IndexByteString", "internal/bytealg.IndexString"], unfollowed := true, recurses := true, named := ["unicode/utf8.first", "unicode/utf8.acceptRanges", "internal/bytealg.MaxLen"], apart := false, laid := [("unicode/utf8.acceptRanges", laid_unicode_utf8_acceptRanges), ("unicode/utf8.first", laid_unicode_utf8_first)], narrowed := true }
def EntryPathsUptoSaid : Prop := entryPathsUptoRow.holds Tryd.pinned (OpenSpec.upto entryPathsSpec)

/-- 'lockgatelaw15.EntryZones', WHERE WHAT IT READS IS OF BULK AT MOST 1048576: true; the input reads as it did. -/
def entryZonesUptoRow : OpenClaim := { program := "ytgmbmkjdfmoanaadoor", sum := "da33cd418efcf2775842f8e43183cddcedfce99c26ecab33de9b3e36263bc7df", func := "lockgate/lockgatelaw15.EntryZones", spec := "entryZones", inPlace := ["internal/bytealg.CountString", "internal/bytealg.IndexByteString", "internal/bytealg.IndexString"], unfollowed := true, recurses := true, named := ["unicode/utf8.first", "unicode/utf8.acceptRanges", "internal/bytealg.MaxLen"], apart := false, laid := [("unicode/utf8.acceptRanges", laid_unicode_utf8_acceptRanges), ("unicode/utf8.first", laid_unicode_utf8_first)], narrowed := true }
def EntryZonesUptoSaid : Prop := entryZonesUptoRow.holds Tryd.pinned (OpenSpec.upto entryZonesSpec)

/-- 'lockgatelaw15.EntryOne', WHERE WHAT IT READS IS OF BULK AT MOST 1048576: true; the input reads as it did. -/
def entryOneUptoRow : OpenClaim := { program := "ytgmbmkjdfmoanaadoor", sum := "da33cd418efcf2775842f8e43183cddcedfce99c26ecab33de9b3e36263bc7df", func := "lockgate/lockgatelaw15.EntryOne", spec := "entryOne", inPlace := ["internal/bytealg.CountString", "internal/bytealg.IndexByteString", "internal/bytealg.IndexString"], unfollowed := true, recurses := true, named := ["unicode/utf8.first", "unicode/utf8.acceptRanges", "internal/bytealg.MaxLen"], apart := false, laid := [("unicode/utf8.acceptRanges", laid_unicode_utf8_acceptRanges), ("unicode/utf8.first", laid_unicode_utf8_first)], narrowed := true }
def EntryOneUptoSaid : Prop := entryOneUptoRow.holds Tryd.pinned (OpenSpec.upto entryOneSpec)

/-- 'lockgatelaw15.EntryBytes', WHERE WHAT IT READS IS OF BULK AT MOST 1048576: true; the input reads as it did. -/
def entryBytesUptoRow : OpenClaim := { program := "ytgmbmkjdfmoanaadoor", sum := "da33cd418efcf2775842f8e43183cddcedfce99c26ecab33de9b3e36263bc7df", func := "lockgate/lockgatelaw15.EntryBytes", spec := "entryBytes", inPlace := ["internal/bytealg.CountString", "internal/bytealg.IndexByteString", "internal/bytealg.IndexString"], unfollowed := true, recurses := true, named := ["unicode/utf8.first", "unicode/utf8.acceptRanges", "internal/bytealg.MaxLen"], apart := false, laid := [("unicode/utf8.acceptRanges", laid_unicode_utf8_acceptRanges), ("unicode/utf8.first", laid_unicode_utf8_first)], narrowed := true }
def EntryBytesUptoSaid : Prop := entryBytesUptoRow.holds Tryd.pinned (OpenSpec.upto entryBytesSpec)

/-- 'lockgatelaw15.EntryOrder', WHERE WHAT IT READS IS OF BULK AT MOST 1048576: true; the input reads as it did. -/
def entryOrderUptoRow : OpenClaim := { program := "ytgmbmkjdfmoanaadoor", sum := "da33cd418efcf2775842f8e43183cddcedfce99c26ecab33de9b3e36263bc7df", func := "lockgate/lockgatelaw15.EntryOrder", spec := "entryOrder", inPlace := ["internal/bytealg.CountString", "internal/bytealg.IndexByteString", "internal/bytealg.IndexString", "slices.overlaps[lockgate/api.Entry]"], unfollowed := true, recurses := true, named := ["unicode/utf8.first", "unicode/utf8.acceptRanges", "internal/bytealg.MaxLen"], apart := false, laid := [("unicode/utf8.acceptRanges", laid_unicode_utf8_acceptRanges), ("unicode/utf8.first", laid_unicode_utf8_first)], narrowed := true }
def EntryOrderUptoSaid : Prop := entryOrderUptoRow.holds Tryd.pinned (OpenSpec.upto entryOrderSpec)

/-- 'lockgatelaw15.EntryKeeps', WHERE WHAT IT READS IS OF BULK AT MOST 1048576: true; the input reads as it did. -/
def entryKeepsUptoRow : OpenClaim := { program := "ytgmbmkjdfmoanaadoor", sum := "da33cd418efcf2775842f8e43183cddcedfce99c26ecab33de9b3e36263bc7df", func := "lockgate/lockgatelaw15.EntryKeeps", spec := "entryKeeps", inPlace := ["internal/bytealg.CountString", "internal/bytealg.IndexByteString", "internal/bytealg.IndexString", "slices.overlaps[lockgate/api.Entry]"], unfollowed := true, recurses := true, named := ["unicode/utf8.first", "unicode/utf8.acceptRanges", "internal/bytealg.MaxLen"], apart := false, laid := [("unicode/utf8.acceptRanges", laid_unicode_utf8_acceptRanges), ("unicode/utf8.first", laid_unicode_utf8_first)], narrowed := true }
def EntryKeepsUptoSaid : Prop := entryKeepsUptoRow.holds Tryd.pinned (OpenSpec.upto entryKeepsSpec)

end Rows
end Go.Proofs.YtgmbmkjdfmoanaaDoor
