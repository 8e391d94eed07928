/-
  No cell of these rows narrows 'for every input' (looked for: loops, veiled, ifaces, maps, wideKeys, modest, calm, conditions, laid).
  DERIVED. THE GIVEN ROWS OF THIS SEAT. 7 by the template 'for every input the law returns true; each argument reads behind the call as it read before'; 0 by the template 'total and deterministic' (their statements: YtnidooobefoahaaTotals.lean).
  GIVEN WITH THE SEED: the statements are not yours to turn. If you find one false, say at which input.
  Laid BY PROGRAM, IN A SANDBOX (cutbox-rows.mjs): the forced cells as the released guide's own fill.sh prints them over the translation cc498bbce9762b89… (all of the seat's roots in one cut). By AI agents, Wed Nov 11 2026. No macro, syntax, notation, axiom, sorry.
-/
import Derived.Test.YtnidooobefoahaaChecked
import GoSem.Claim
import GoSem.ClaimJoined
import GoSem.ClaimMapViews
import Derived.JoinedTies
import Derived.KernelRfl
namespace Go.Proofs.Ytnidooobefoahaa
/- THE CELL 'sum', in the pinned program and in every row, IS THE sha256 OF THE DUMP (.gsa) THAT YtnidooobefoahaaProg.lean LOADS. Nothing in Lean hashes anything: it is a label: what it is worth is what the hold of that sum in a sandbox is worth. -/
noncomputable def Try.pinned : Pinned := { name := "ytnidooobefoahaa", sum := "cc498bbce9762b89b8c539c5fb46f435cecdca2b4faf835fd4127d7e385e37d8", checked := Try.checked }
namespace Rows
def none {H : Type} : Left H := { results := [], args := [] }

/-- 'sapwoodlaw01.FixWidth': WHATEVER THE INPUT: true; the input reads as it did. -/
def fixWidthSpec : ChangeSpec := { name := "fixWidth", fn := fun _ => fun
  | [d1, d2] => { results := [.lit (.bool true)], args := [d1, d2] }
  | _ => none }
def fixWidthRow : OpenClaim := { program := "ytnidooobefoahaa", sum := "cc498bbce9762b89b8c539c5fb46f435cecdca2b4faf835fd4127d7e385e37d8", func := "sapwood/sapwoodlaw01.FixWidth", spec := "fixWidth", apart := false }
def FixWidthSaid : Prop := fixWidthRow.holds Try.pinned (OpenSpec.ofChange fixWidthSpec)

/-- ITS FALSE NEIGHBOUR: 'it returns false'. Refute it at one input. -/
def fixWidthWrong : ChangeSpec := { name := "fixWidth", fn := fun _ => fun
  | [d1, d2] => { results := [.lit (.bool false)], args := [d1, d2] }
  | _ => none }
def FixWidthWrongFalsely : Prop := fixWidthRow.holds Try.pinned (OpenSpec.ofChange fixWidthWrong)

/-- 'sapwoodlaw01.FixPuts': WHATEVER THE INPUT: true; the input reads as it did. -/
def fixPutsSpec : ChangeSpec := { name := "fixPuts", fn := fun _ => fun
  | [d1, d2, d3] => { results := [.lit (.bool true)], args := [d1, d2, d3] }
  | _ => none }
def fixPutsRow : OpenClaim := { program := "ytnidooobefoahaa", sum := "cc498bbce9762b89b8c539c5fb46f435cecdca2b4faf835fd4127d7e385e37d8", func := "sapwood/sapwoodlaw01.FixPuts", spec := "fixPuts", apart := false }
def FixPutsSaid : Prop := fixPutsRow.holds Try.pinned (OpenSpec.ofChange fixPutsSpec)

/-- ITS FALSE NEIGHBOUR: 'it returns false'. Refute it at one input. -/
def fixPutsWrong : ChangeSpec := { name := "fixPuts", fn := fun _ => fun
  | [d1, d2, d3] => { results := [.lit (.bool false)], args := [d1, d2, d3] }
  | _ => none }
def FixPutsWrongFalsely : Prop := fixPutsRow.holds Try.pinned (OpenSpec.ofChange fixPutsWrong)

/-- 'sapwoodlaw01.FixKeeps': WHATEVER THE INPUT: true; the input reads as it did. -/
def fixKeepsSpec : ChangeSpec := { name := "fixKeeps", fn := fun _ => fun
  | [d1, d2, d3] => { results := [.lit (.bool true)], args := [d1, d2, d3] }
  | _ => none }
def fixKeepsRow : OpenClaim := { program := "ytnidooobefoahaa", sum := "cc498bbce9762b89b8c539c5fb46f435cecdca2b4faf835fd4127d7e385e37d8", func := "sapwood/sapwoodlaw01.FixKeeps", spec := "fixKeeps", apart := false }
def FixKeepsSaid : Prop := fixKeepsRow.holds Try.pinned (OpenSpec.ofChange fixKeepsSpec)

/-- ITS FALSE NEIGHBOUR: 'it returns false'. Refute it at one input. -/
def fixKeepsWrong : ChangeSpec := { name := "fixKeeps", fn := fun _ => fun
  | [d1, d2, d3] => { results := [.lit (.bool false)], args := [d1, d2, d3] }
  | _ => none }
def FixKeepsWrongFalsely : Prop := fixKeepsRow.holds Try.pinned (OpenSpec.ofChange fixKeepsWrong)

/-- 'sapwoodlaw01.FixBack': WHATEVER THE INPUT: true; the input reads as it did. -/
def fixBackSpec : ChangeSpec := { name := "fixBack", fn := fun _ => fun
  | [d1, d2, d3, d4] => { results := [.lit (.bool true)], args := [d1, d2, d3, d4] }
  | _ => none }
def fixBackRow : OpenClaim := { program := "ytnidooobefoahaa", sum := "cc498bbce9762b89b8c539c5fb46f435cecdca2b4faf835fd4127d7e385e37d8", func := "sapwood/sapwoodlaw01.FixBack", spec := "fixBack", apart := false }
def FixBackSaid : Prop := fixBackRow.holds Try.pinned (OpenSpec.ofChange fixBackSpec)

/-- ITS FALSE NEIGHBOUR: 'it returns false'. Refute it at one input. -/
def fixBackWrong : ChangeSpec := { name := "fixBack", fn := fun _ => fun
  | [d1, d2, d3, d4] => { results := [.lit (.bool false)], args := [d1, d2, d3, d4] }
  | _ => none }
def FixBackWrongFalsely : Prop := fixBackRow.holds Try.pinned (OpenSpec.ofChange fixBackWrong)

/-- 'sapwoodlaw01.FixReads': WHATEVER THE INPUT: true; the input reads as it did. -/
def fixReadsSpec : ChangeSpec := { name := "fixReads", fn := fun _ => fun
  | [d1, d2] => { results := [.lit (.bool true)], args := [d1, d2] }
  | _ => none }
def fixReadsRow : OpenClaim := { program := "ytnidooobefoahaa", sum := "cc498bbce9762b89b8c539c5fb46f435cecdca2b4faf835fd4127d7e385e37d8", func := "sapwood/sapwoodlaw01.FixReads", spec := "fixReads", unfollowed := true, recurses := true, apart := false }
def FixReadsSaid : Prop := fixReadsRow.holds Try.pinned (OpenSpec.ofChange fixReadsSpec)

/-- ITS FALSE NEIGHBOUR: 'it returns false'. Refute it at one input. -/
def fixReadsWrong : ChangeSpec := { name := "fixReads", fn := fun _ => fun
  | [d1, d2] => { results := [.lit (.bool false)], args := [d1, d2] }
  | _ => none }
def FixReadsWrongFalsely : Prop := fixReadsRow.holds Try.pinned (OpenSpec.ofChange fixReadsWrong)

/-- 'sapwoodlaw01.FixStops': WHATEVER THE INPUT: true; the input reads as it did. -/
def fixStopsSpec : ChangeSpec := { name := "fixStops", fn := fun _ => fun
  | [d1, d2, d3] => { results := [.lit (.bool true)], args := [d1, d2, d3] }
  | _ => none }
def fixStopsRow : OpenClaim := { program := "ytnidooobefoahaa", sum := "cc498bbce9762b89b8c539c5fb46f435cecdca2b4faf835fd4127d7e385e37d8", func := "sapwood/sapwoodlaw01.FixStops", spec := "fixStops", unfollowed := true, recurses := true, apart := false }
def FixStopsSaid : Prop := fixStopsRow.holds Try.pinned (OpenSpec.ofChange fixStopsSpec)

/-- ITS FALSE NEIGHBOUR: 'it returns false'. Refute it at one input. -/
def fixStopsWrong : ChangeSpec := { name := "fixStops", fn := fun _ => fun
  | [d1, d2, d3] => { results := [.lit (.bool false)], args := [d1, d2, d3] }
  | _ => none }
def FixStopsWrongFalsely : Prop := fixStopsRow.holds Try.pinned (OpenSpec.ofChange fixStopsWrong)

/-- 'sapwoodlaw01.FixNil': WHATEVER THE INPUT: true; the input reads as it did. -/
def fixNilSpec : ChangeSpec := { name := "fixNil", fn := fun _ => fun
  | [d] => { results := [.lit (.bool true)], args := [d] }
  | _ => none }
def fixNilRow : OpenClaim := { program := "ytnidooobefoahaa", sum := "cc498bbce9762b89b8c539c5fb46f435cecdca2b4faf835fd4127d7e385e37d8", func := "sapwood/sapwoodlaw01.FixNil", spec := "fixNil", unfollowed := true, recurses := true, apart := false }
def FixNilSaid : Prop := fixNilRow.holds Try.pinned (OpenSpec.ofChange fixNilSpec)

/-- ITS FALSE NEIGHBOUR: 'it returns false'. Refute it at one input. -/
def fixNilWrong : ChangeSpec := { name := "fixNil", fn := fun _ => fun
  | [d] => { results := [.lit (.bool false)], args := [d] }
  | _ => none }
def FixNilWrongFalsely : Prop := fixNilRow.holds Try.pinned (OpenSpec.ofChange fixNilWrong)

/- THE SECOND FORM. 'bulk': how many values and letters a reading holds, each counted each time it is reached (what is shared counts as often as it is met; a slice's spare places count too). A statement '..UptoSaid' is the law's where the arguments, and the package variables that the reading takes, are together of bulk at most 1048576: NARROWER than '..Said'. Prove '..Said' where nothing that the law and all that it calls make is longer than what came in: it says more and counts as full. Else prove '..UptoSaid'. A law counts once. -/
mutual
def uptoBulk {H : Type} : DataW H → Nat
  | .lit (.string bytes) => bytes.length + 1
  | .lit _ => 1
  | .nil => 1
  | .ptr d => uptoBulk d + 1
  | .slice elems spare => uptoBulkAll elems + uptoBulkAll spare + 1
  | .agg parts => uptoBulkAll parts + 1
  | .iface _ d => uptoBulk d + 1
  | .map entries => uptoBulkEntries entries + 1
  | .held _ => 1
def uptoBulkAll {H : Type} : List (DataW H) → Nat
  | [] => 0
  | d :: r => uptoBulk d + uptoBulkAll r
def uptoBulkEntries {H : Type} : List (Lit × DataW H) → Nat
  | [] => 0
  | x :: r => uptoBulkEntry x + uptoBulkEntries r
def uptoBulkEntry {H : Type} : Lit × DataW H → Nat
  | (.string bytes, d) => bytes.length + uptoBulk d + 1
  | (_, d) => uptoBulk d + 1
 end
def uptoSmall : (H : Type) → List (DataW H) → Bool := fun _ ds => decide (uptoBulkAll ds ≤ 1048576)
def OpenSpec.upto (s : _root_.Go.ChangeSpec) : _root_.Go.OpenSpec := { _root_.Go.OpenSpec.ofChange s with cond := some uptoSmall }

/-- 'sapwoodlaw01.FixWidth', WHERE WHAT IT READS IS OF BULK AT MOST 1048576: true; the input reads as it did. -/
def fixWidthUptoRow : OpenClaim := { program := "ytnidooobefoahaa", sum := "cc498bbce9762b89b8c539c5fb46f435cecdca2b4faf835fd4127d7e385e37d8", func := "sapwood/sapwoodlaw01.FixWidth", spec := "fixWidth", apart := false, narrowed := true }
def FixWidthUptoSaid : Prop := fixWidthUptoRow.holds Try.pinned (OpenSpec.upto fixWidthSpec)

/-- 'sapwoodlaw01.FixPuts', WHERE WHAT IT READS IS OF BULK AT MOST 1048576: true; the input reads as it did. -/
def fixPutsUptoRow : OpenClaim := { program := "ytnidooobefoahaa", sum := "cc498bbce9762b89b8c539c5fb46f435cecdca2b4faf835fd4127d7e385e37d8", func := "sapwood/sapwoodlaw01.FixPuts", spec := "fixPuts", apart := false, narrowed := true }
def FixPutsUptoSaid : Prop := fixPutsUptoRow.holds Try.pinned (OpenSpec.upto fixPutsSpec)

/-- 'sapwoodlaw01.FixKeeps', WHERE WHAT IT READS IS OF BULK AT MOST 1048576: true; the input reads as it did. -/
def fixKeepsUptoRow : OpenClaim := { program := "ytnidooobefoahaa", sum := "cc498bbce9762b89b8c539c5fb46f435cecdca2b4faf835fd4127d7e385e37d8", func := "sapwood/sapwoodlaw01.FixKeeps", spec := "fixKeeps", apart := false, narrowed := true }
def FixKeepsUptoSaid : Prop := fixKeepsUptoRow.holds Try.pinned (OpenSpec.upto fixKeepsSpec)

/-- 'sapwoodlaw01.FixBack', WHERE WHAT IT READS IS OF BULK AT MOST 1048576: true; the input reads as it did. -/
def fixBackUptoRow : OpenClaim := { program := "ytnidooobefoahaa", sum := "cc498bbce9762b89b8c539c5fb46f435cecdca2b4faf835fd4127d7e385e37d8", func := "sapwood/sapwoodlaw01.FixBack", spec := "fixBack", apart := false, narrowed := true }
def FixBackUptoSaid : Prop := fixBackUptoRow.holds Try.pinned (OpenSpec.upto fixBackSpec)

/-- 'sapwoodlaw01.FixReads', WHERE WHAT IT READS IS OF BULK AT MOST 1048576: true; the input reads as it did. -/
def fixReadsUptoRow : OpenClaim := { program := "ytnidooobefoahaa", sum := "cc498bbce9762b89b8c539c5fb46f435cecdca2b4faf835fd4127d7e385e37d8", func := "sapwood/sapwoodlaw01.FixReads", spec := "fixReads", unfollowed := true, recurses := true, apart := false, narrowed := true }
def FixReadsUptoSaid : Prop := fixReadsUptoRow.holds Try.pinned (OpenSpec.upto fixReadsSpec)

/-- 'sapwoodlaw01.FixStops', WHERE WHAT IT READS IS OF BULK AT MOST 1048576: true; the input reads as it did. -/
def fixStopsUptoRow : OpenClaim := { program := "ytnidooobefoahaa", sum := "cc498bbce9762b89b8c539c5fb46f435cecdca2b4faf835fd4127d7e385e37d8", func := "sapwood/sapwoodlaw01.FixStops", spec := "fixStops", unfollowed := true, recurses := true, apart := false, narrowed := true }
def FixStopsUptoSaid : Prop := fixStopsUptoRow.holds Try.pinned (OpenSpec.upto fixStopsSpec)

/-- 'sapwoodlaw01.FixNil', WHERE WHAT IT READS IS OF BULK AT MOST 1048576: true; the input reads as it did. -/
def fixNilUptoRow : OpenClaim := { program := "ytnidooobefoahaa", sum := "cc498bbce9762b89b8c539c5fb46f435cecdca2b4faf835fd4127d7e385e37d8", func := "sapwood/sapwoodlaw01.FixNil", spec := "fixNil", unfollowed := true, recurses := true, apart := false, narrowed := true }
def FixNilUptoSaid : Prop := fixNilUptoRow.holds Try.pinned (OpenSpec.upto fixNilSpec)

end Rows
end Go.Proofs.Ytnidooobefoahaa
