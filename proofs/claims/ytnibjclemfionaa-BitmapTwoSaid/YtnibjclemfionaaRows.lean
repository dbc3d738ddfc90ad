/-
  No cell of these rows narrows 'for every input' (looked for: loops, veiled, ifaces, maps, wideKeys, modest, calm, conditions, laid).
  DERIVED. THE GIVEN ROWS OF THIS SEAT. 8 by the template 'for every input the law returns true; each argument reads behind the call as it read before'; 0 by the template 'total and deterministic' (their statements: YtnibjclemfionaaTotals.lean).
  GIVEN WITH THE SEED: the statements are not yours to turn. If you find one false, say at which input.
  Laid BY PROGRAM, IN A SANDBOX (cutbox-rows.mjs): the forced cells as the released guide's own fill.sh prints them over the translation 31784d1302abfd90… (all of the seat's roots in one cut). By AI agents, Wed Nov 11 2026. No macro, syntax, notation, axiom, sorry.
-/
import Derived.Test.YtnibjclemfionaaChecked
import GoSem.Claim
import GoSem.ClaimJoined
import GoSem.ClaimMapViews
import Derived.JoinedTies
import Derived.KernelRfl
namespace Go.Proofs.Ytnibjclemfionaa
/- THE CELL 'sum', in the pinned program and in every row, IS THE sha256 OF THE DUMP (.gsa) THAT YtnibjclemfionaaProg.lean LOADS. Nothing in Lean hashes anything: it is a label: what it is worth is what the hold of that sum in a sandbox is worth. -/
noncomputable def Try.pinned : Pinned := { name := "ytnibjclemfionaa", sum := "31784d1302abfd901330ba38c7101ab791984e56ad7c11dd9734d5ad5a438a15", checked := Try.checked }
namespace Rows
def none {H : Type} : Left H := { results := [], args := [] }

/-- 'lockgatelaw03.BitmapOne': WHATEVER THE INPUT: true; the input reads as it did. -/
def bitmapOneSpec : ChangeSpec := { name := "bitmapOne", fn := fun _ => fun
  | [d1, d2] => { results := [.lit (.bool true)], args := [d1, d2] }
  | _ => none }
def bitmapOneRow : OpenClaim := { program := "ytnibjclemfionaa", sum := "31784d1302abfd901330ba38c7101ab791984e56ad7c11dd9734d5ad5a438a15", func := "lockgate/lockgatelaw03.BitmapOne", spec := "bitmapOne", inPlace := ["internal/abi.NoEscape", "internal/bytealg.MakeNoZero"], apart := false }
def BitmapOneSaid : Prop := bitmapOneRow.holds Try.pinned (OpenSpec.ofChange bitmapOneSpec)

/-- ITS FALSE NEIGHBOUR: 'it returns false'. Refute it at one input. -/
def bitmapOneWrong : ChangeSpec := { name := "bitmapOne", fn := fun _ => fun
  | [d1, d2] => { results := [.lit (.bool false)], args := [d1, d2] }
  | _ => none }
def BitmapOneWrongFalsely : Prop := bitmapOneRow.holds Try.pinned (OpenSpec.ofChange bitmapOneWrong)

/-- 'lockgatelaw03.BitmapFirst': WHATEVER THE INPUT: true; the input reads as it did. -/
def bitmapFirstSpec : ChangeSpec := { name := "bitmapFirst", fn := fun _ => fun
  | [d1, d2] => { results := [.lit (.bool true)], args := [d1, d2] }
  | _ => none }
def bitmapFirstRow : OpenClaim := { program := "ytnibjclemfionaa", sum := "31784d1302abfd901330ba38c7101ab791984e56ad7c11dd9734d5ad5a438a15", func := "lockgate/lockgatelaw03.BitmapFirst", spec := "bitmapFirst", inPlace := ["internal/abi.NoEscape", "internal/bytealg.MakeNoZero"], apart := false }
def BitmapFirstSaid : Prop := bitmapFirstRow.holds Try.pinned (OpenSpec.ofChange bitmapFirstSpec)

/-- ITS FALSE NEIGHBOUR: 'it returns false'. Refute it at one input. -/
def bitmapFirstWrong : ChangeSpec := { name := "bitmapFirst", fn := fun _ => fun
  | [d1, d2] => { results := [.lit (.bool false)], args := [d1, d2] }
  | _ => none }
def BitmapFirstWrongFalsely : Prop := bitmapFirstRow.holds Try.pinned (OpenSpec.ofChange bitmapFirstWrong)

/-- 'lockgatelaw03.BitmapTwo': WHATEVER THE INPUT: true; the input reads as it did. -/
def bitmapTwoSpec : ChangeSpec := { name := "bitmapTwo", fn := fun _ => fun
  | [d1, d2, d3] => { results := [.lit (.bool true)], args := [d1, d2, d3] }
  | _ => none }
def bitmapTwoRow : OpenClaim := { program := "ytnibjclemfionaa", sum := "31784d1302abfd901330ba38c7101ab791984e56ad7c11dd9734d5ad5a438a15", func := "lockgate/lockgatelaw03.BitmapTwo", spec := "bitmapTwo", inPlace := ["internal/abi.NoEscape", "internal/bytealg.MakeNoZero"], apart := false }
def BitmapTwoSaid : Prop := bitmapTwoRow.holds Try.pinned (OpenSpec.ofChange bitmapTwoSpec)

/-- ITS FALSE NEIGHBOUR: 'it returns false'. Refute it at one input. -/
def bitmapTwoWrong : ChangeSpec := { name := "bitmapTwo", fn := fun _ => fun
  | [d1, d2, d3] => { results := [.lit (.bool false)], args := [d1, d2, d3] }
  | _ => none }
def BitmapTwoWrongFalsely : Prop := bitmapTwoRow.holds Try.pinned (OpenSpec.ofChange bitmapTwoWrong)

/-- 'lockgatelaw03.BitmapBits': WHATEVER THE INPUT: true; the input reads as it did. -/
def bitmapBitsSpec : ChangeSpec := { name := "bitmapBits", fn := fun _ => fun
  | [d1, d2, d3] => { results := [.lit (.bool true)], args := [d1, d2, d3] }
  | _ => none }
def bitmapBitsRow : OpenClaim := { program := "ytnibjclemfionaa", sum := "31784d1302abfd901330ba38c7101ab791984e56ad7c11dd9734d5ad5a438a15", func := "lockgate/lockgatelaw03.BitmapBits", spec := "bitmapBits", inPlace := ["internal/abi.NoEscape", "internal/bytealg.MakeNoZero"], apart := false }
def BitmapBitsSaid : Prop := bitmapBitsRow.holds Try.pinned (OpenSpec.ofChange bitmapBitsSpec)

/-- ITS FALSE NEIGHBOUR: 'it returns false'. Refute it at one input. -/
def bitmapBitsWrong : ChangeSpec := { name := "bitmapBits", fn := fun _ => fun
  | [d1, d2, d3] => { results := [.lit (.bool false)], args := [d1, d2, d3] }
  | _ => none }
def BitmapBitsWrongFalsely : Prop := bitmapBitsRow.holds Try.pinned (OpenSpec.ofChange bitmapBitsWrong)

/-- 'lockgatelaw03.BitmapFills': WHATEVER THE INPUT: true; the input reads as it did. -/
def bitmapFillsSpec : ChangeSpec := { name := "bitmapFills", fn := fun _ => fun
  | [d] => { results := [.lit (.bool true)], args := [d] }
  | _ => none }
def bitmapFillsRow : OpenClaim := { program := "ytnibjclemfionaa", sum := "31784d1302abfd901330ba38c7101ab791984e56ad7c11dd9734d5ad5a438a15", func := "lockgate/lockgatelaw03.BitmapFills", spec := "bitmapFills", inPlace := ["internal/abi.NoEscape", "internal/bytealg.MakeNoZero"], apart := false }
def BitmapFillsSaid : Prop := bitmapFillsRow.holds Try.pinned (OpenSpec.ofChange bitmapFillsSpec)

/-- ITS FALSE NEIGHBOUR: 'it returns false'. Refute it at one input. -/
def bitmapFillsWrong : ChangeSpec := { name := "bitmapFills", fn := fun _ => fun
  | [d] => { results := [.lit (.bool false)], args := [d] }
  | _ => none }
def BitmapFillsWrongFalsely : Prop := bitmapFillsRow.holds Try.pinned (OpenSpec.ofChange bitmapFillsWrong)

/-- 'lockgatelaw03.BitmapLists': WHATEVER THE INPUT: true; the input reads as it did. -/
def bitmapListsSpec : ChangeSpec := { name := "bitmapLists", fn := fun _ => fun
  | [d] => { results := [.lit (.bool true)], args := [d] }
  | _ => none }
def bitmapListsRow : OpenClaim := { program := "ytnibjclemfionaa", sum := "31784d1302abfd901330ba38c7101ab791984e56ad7c11dd9734d5ad5a438a15", func := "lockgate/lockgatelaw03.BitmapLists", spec := "bitmapLists", inPlace := ["internal/abi.NoEscape", "internal/bytealg.MakeNoZero"], apart := false }
def BitmapListsSaid : Prop := bitmapListsRow.holds Try.pinned (OpenSpec.ofChange bitmapListsSpec)

/-- ITS FALSE NEIGHBOUR: 'it returns false'. Refute it at one input. -/
def bitmapListsWrong : ChangeSpec := { name := "bitmapLists", fn := fun _ => fun
  | [d] => { results := [.lit (.bool false)], args := [d] }
  | _ => none }
def BitmapListsWrongFalsely : Prop := bitmapListsRow.holds Try.pinned (OpenSpec.ofChange bitmapListsWrong)

/-- 'lockgatelaw03.BitmapMakes': WHATEVER THE INPUT: true; the input reads as it did. -/
def bitmapMakesSpec : ChangeSpec := { name := "bitmapMakes", fn := fun _ => fun
  | [d1, d2] => { results := [.lit (.bool true)], args := [d1, d2] }
  | _ => none }
def bitmapMakesRow : OpenClaim := { program := "ytnibjclemfionaa", sum := "31784d1302abfd901330ba38c7101ab791984e56ad7c11dd9734d5ad5a438a15", func := "lockgate/lockgatelaw03.BitmapMakes", spec := "bitmapMakes", inPlace := ["internal/abi.NoEscape", "internal/bytealg.MakeNoZero"], apart := false }
def BitmapMakesSaid : Prop := bitmapMakesRow.holds Try.pinned (OpenSpec.ofChange bitmapMakesSpec)

/-- ITS FALSE NEIGHBOUR: 'it returns false'. Refute it at one input. -/
def bitmapMakesWrong : ChangeSpec := { name := "bitmapMakes", fn := fun _ => fun
  | [d1, d2] => { results := [.lit (.bool false)], args := [d1, d2] }
  | _ => none }
def BitmapMakesWrongFalsely : Prop := bitmapMakesRow.holds Try.pinned (OpenSpec.ofChange bitmapMakesWrong)

/-- 'lockgatelaw03.BitmapEdge': WHATEVER THE INPUT: true; the input reads as it did. -/
def bitmapEdgeSpec : ChangeSpec := { name := "bitmapEdge", fn := fun _ => fun
  | [d] => { results := [.lit (.bool true)], args := [d] }
  | _ => none }
def bitmapEdgeRow : OpenClaim := { program := "ytnibjclemfionaa", sum := "31784d1302abfd901330ba38c7101ab791984e56ad7c11dd9734d5ad5a438a15", func := "lockgate/lockgatelaw03.BitmapEdge", spec := "bitmapEdge", inPlace := ["internal/abi.NoEscape", "internal/bytealg.MakeNoZero"], apart := false }
def BitmapEdgeSaid : Prop := bitmapEdgeRow.holds Try.pinned (OpenSpec.ofChange bitmapEdgeSpec)

/-- ITS FALSE NEIGHBOUR: 'it returns false'. Refute it at one input. -/
def bitmapEdgeWrong : ChangeSpec := { name := "bitmapEdge", fn := fun _ => fun
  | [d] => { results := [.lit (.bool false)], args := [d] }
  | _ => none }
def BitmapEdgeWrongFalsely : Prop := bitmapEdgeRow.holds Try.pinned (OpenSpec.ofChange bitmapEdgeWrong)

/- THE SECOND FORM. 'bulk': how many values and letters a reading holds, each counted each time it is reached (what is shared counts as often as it is met; a slice's spare places count too). A statement '..UptoSaid' is the law's where the arguments, and the package variables that the reading takes, are together of bulk at most 1048576: NARROWER than '..Said'. Prove '..Said' where nothing that the law and all that it calls make is longer than what came in: it says more and counts as full. Else prove '..UptoSaid'. A law counts once. -/
mutual
def uptoBulk {H : Type} : DataW H → Nat
  | .lit (.string bytes) => bytes.length + 1
  | .lit _ => 1
  | .nil => 1
  | .ptr d => uptoBulk d + 1
  | .slice elems spare => uptoBulkAll elems + uptoBulkAll spare + 1
  | .agg parts => uptoBulkAll parts + 1
  | .iface _ d => uptoBulk d + 1
  | .map entries => uptoBulkEntries entries + 1
  | .held _ => 1
def uptoBulkAll {H : Type} : List (DataW H) → Nat
  | [] => 0
  | d :: r => uptoBulk d + uptoBulkAll r
def uptoBulkEntries {H : Type} : List (Lit × DataW H) → Nat
  | [] => 0
  | x :: r => uptoBulkEntry x + uptoBulkEntries r
def uptoBulkEntry {H : Type} : Lit × DataW H → Nat
  | (.string bytes, d) => bytes.length + uptoBulk d + 1
  | (_, d) => uptoBulk d + 1
 end
def uptoSmall : (H : Type) → List (DataW H) → Bool := fun _ ds => decide (uptoBulkAll ds ≤ 1048576)
def OpenSpec.upto (s : _root_.Go.ChangeSpec) : _root_.Go.OpenSpec := { _root_.Go.OpenSpec.ofChange s with cond := some uptoSmall }

/-- 'lockgatelaw03.BitmapOne', WHERE WHAT IT READS IS OF BULK AT MOST 1048576: true; the input reads as it did. -/
def bitmapOneUptoRow : OpenClaim := { program := "ytnibjclemfionaa", sum := "31784d1302abfd901330ba38c7101ab791984e56ad7c11dd9734d5ad5a438a15", func := "lockgate/lockgatelaw03.BitmapOne", spec := "bitmapOne", inPlace := ["internal/abi.NoEscape", "internal/bytealg.MakeNoZero"], apart := false, narrowed := true }
def BitmapOneUptoSaid : Prop := bitmapOneUptoRow.holds Try.pinned (OpenSpec.upto bitmapOneSpec)

/-- 'lockgatelaw03.BitmapFirst', WHERE WHAT IT READS IS OF BULK AT MOST 1048576: true; the input reads as it did. -/
def bitmapFirstUptoRow : OpenClaim := { program := "ytnibjclemfionaa", sum := "31784d1302abfd901330ba38c7101ab791984e56ad7c11dd9734d5ad5a438a15", func := "lockgate/lockgatelaw03.BitmapFirst", spec := "bitmapFirst", inPlace := ["internal/abi.NoEscape", "internal/bytealg.MakeNoZero"], apart := false, narrowed := true }
def BitmapFirstUptoSaid : Prop := bitmapFirstUptoRow.holds Try.pinned (OpenSpec.upto bitmapFirstSpec)

/-- 'lockgatelaw03.BitmapTwo', WHERE WHAT IT READS IS OF BULK AT MOST 1048576: true; the input reads as it did. -/
def bitmapTwoUptoRow : OpenClaim := { program := "ytnibjclemfionaa", sum := "31784d1302abfd901330ba38c7101ab791984e56ad7c11dd9734d5ad5a438a15", func := "lockgate/lockgatelaw03.BitmapTwo", spec := "bitmapTwo", inPlace := ["internal/abi.NoEscape", "internal/bytealg.MakeNoZero"], apart := false, narrowed := true }
def BitmapTwoUptoSaid : Prop := bitmapTwoUptoRow.holds Try.pinned (OpenSpec.upto bitmapTwoSpec)

/-- 'lockgatelaw03.BitmapBits', WHERE WHAT IT READS IS OF BULK AT MOST 1048576: true; the input reads as it did. -/
def bitmapBitsUptoRow : OpenClaim := { program := "ytnibjclemfionaa", sum := "31784d1302abfd901330ba38c7101ab791984e56ad7c11dd9734d5ad5a438a15", func := "lockgate/lockgatelaw03.BitmapBits", spec := "bitmapBits", inPlace := ["internal/abi.NoEscape", "internal/bytealg.MakeNoZero"], apart := false, narrowed := true }
def BitmapBitsUptoSaid : Prop := bitmapBitsUptoRow.holds Try.pinned (OpenSpec.upto bitmapBitsSpec)

/-- 'lockgatelaw03.BitmapFills', WHERE WHAT IT READS IS OF BULK AT MOST 1048576: true; the input reads as it did. -/
def bitmapFillsUptoRow : OpenClaim := { program := "ytnibjclemfionaa", sum := "31784d1302abfd901330ba38c7101ab791984e56ad7c11dd9734d5ad5a438a15", func := "lockgate/lockgatelaw03.BitmapFills", spec := "bitmapFills", inPlace := ["internal/abi.NoEscape", "internal/bytealg.MakeNoZero"], apart := false, narrowed := true }
def BitmapFillsUptoSaid : Prop := bitmapFillsUptoRow.holds Try.pinned (OpenSpec.upto bitmapFillsSpec)

/-- 'lockgatelaw03.BitmapLists', WHERE WHAT IT READS IS OF BULK AT MOST 1048576: true; the input reads as it did. -/
def bitmapListsUptoRow : OpenClaim := { program := "ytnibjclemfionaa", sum := "31784d1302abfd901330ba38c7101ab791984e56ad7c11dd9734d5ad5a438a15", func := "lockgate/lockgatelaw03.BitmapLists", spec := "bitmapLists", inPlace := ["internal/abi.NoEscape", "internal/bytealg.MakeNoZero"], apart := false, narrowed := true }
def BitmapListsUptoSaid : Prop := bitmapListsUptoRow.holds Try.pinned (OpenSpec.upto bitmapListsSpec)

/-- 'lockgatelaw03.BitmapMakes', WHERE WHAT IT READS IS OF BULK AT MOST 1048576: true; the input reads as it did. -/
def bitmapMakesUptoRow : OpenClaim := { program := "ytnibjclemfionaa", sum := "31784d1302abfd901330ba38c7101ab791984e56ad7c11dd9734d5ad5a438a15", func := "lockgate/lockgatelaw03.BitmapMakes", spec := "bitmapMakes", inPlace := ["internal/abi.NoEscape", "internal/bytealg.MakeNoZero"], apart := false, narrowed := true }
def BitmapMakesUptoSaid : Prop := bitmapMakesUptoRow.holds Try.pinned (OpenSpec.upto bitmapMakesSpec)

/-- 'lockgatelaw03.BitmapEdge', WHERE WHAT IT READS IS OF BULK AT MOST 1048576: true; the input reads as it did. -/
def bitmapEdgeUptoRow : OpenClaim := { program := "ytnibjclemfionaa", sum := "31784d1302abfd901330ba38c7101ab791984e56ad7c11dd9734d5ad5a438a15", func := "lockgate/lockgatelaw03.BitmapEdge", spec := "bitmapEdge", inPlace := ["internal/abi.NoEscape", "internal/bytealg.MakeNoZero"], apart := false, narrowed := true }
def BitmapEdgeUptoSaid : Prop := bitmapEdgeUptoRow.holds Try.pinned (OpenSpec.upto bitmapEdgeSpec)

end Rows
end Go.Proofs.Ytnibjclemfionaa
