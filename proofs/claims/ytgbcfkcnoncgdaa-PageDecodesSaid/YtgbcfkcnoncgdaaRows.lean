/-
  No cell of these rows narrows 'for every input' (looked for: loops, veiled, ifaces, maps, wideKeys, modest, calm, conditions, laid).
  DERIVED. THE GIVEN ROWS OF THIS SEAT. 6 by the template 'for every input the law returns true; each argument reads behind the call as it read before'; 0 by the template 'total and deterministic' (their statements: YtgbcfkcnoncgdaaTotals.lean).
  GIVEN WITH THE SEED: the statements are not yours to turn. If you find one false, say at which input.
  Laid BY PROGRAM, IN A SANDBOX (cutbox-rows.mjs): the forced cells as the released guide's own fill.sh prints them over the translation 95ac6a0b36c4338a… (all of the seat's roots in one cut). By AI agents, Wed Nov 11 2026. No macro, syntax, notation, axiom, sorry.
-/
import Derived.Test.YtgbcfkcnoncgdaaChecked
import GoSem.Claim
import GoSem.ClaimJoined
import GoSem.ClaimMapViews
import Derived.JoinedTies
import Derived.KernelRfl
namespace Go.Proofs.Ytgbcfkcnoncgdaa
/- THE CELL 'sum', in the pinned program and in every row, IS THE sha256 OF THE DUMP (.gsa) THAT YtgbcfkcnoncgdaaProg.lean LOADS. Nothing in Lean hashes anything: it is a label: what it is worth is what the hold of that sum in a sandbox is worth. -/
noncomputable def Try.pinned : Pinned := { name := "ytgbcfkcnoncgdaa", sum := "95ac6a0b36c4338a4ad8b4b707a16f333a8444ed735962ff1cf69600d1730d74", checked := Try.checked }
namespace Rows
def none {H : Type} : Left H := { results := [], args := [] }

/-- 'sapwoodlaw04.PageOne': WHATEVER THE INPUT: true; the input reads as it did. -/
def pageOneSpec : ChangeSpec := { name := "pageOne", fn := fun _ => fun
  | [d] => { results := [.lit (.bool true)], args := [d] }
  | _ => none }
def pageOneRow : OpenClaim := { program := "ytgbcfkcnoncgdaa", sum := "95ac6a0b36c4338a4ad8b4b707a16f333a8444ed735962ff1cf69600d1730d74", func := "sapwood/sapwoodlaw04.PageOne", spec := "pageOne", apart := false }
def PageOneSaid : Prop := pageOneRow.holds Try.pinned (OpenSpec.ofChange pageOneSpec)

/-- ITS FALSE NEIGHBOUR: 'it returns false'. Refute it at one input. -/
def pageOneWrong : ChangeSpec := { name := "pageOne", fn := fun _ => fun
  | [d] => { results := [.lit (.bool false)], args := [d] }
  | _ => none }
def PageOneWrongFalsely : Prop := pageOneRow.holds Try.pinned (OpenSpec.ofChange pageOneWrong)

/-- 'sapwoodlaw04.PageTurned': WHATEVER THE INPUT: true; the input reads as it did. -/
def pageTurnedSpec : ChangeSpec := { name := "pageTurned", fn := fun _ => fun
  | [d1, d2, d3] => { results := [.lit (.bool true)], args := [d1, d2, d3] }
  | _ => none }
def pageTurnedRow : OpenClaim := { program := "ytgbcfkcnoncgdaa", sum := "95ac6a0b36c4338a4ad8b4b707a16f333a8444ed735962ff1cf69600d1730d74", func := "sapwood/sapwoodlaw04.PageTurned", spec := "pageTurned", apart := false }
def PageTurnedSaid : Prop := pageTurnedRow.holds Try.pinned (OpenSpec.ofChange pageTurnedSpec)

/-- ITS FALSE NEIGHBOUR: 'it returns false'. Refute it at one input. -/
def pageTurnedWrong : ChangeSpec := { name := "pageTurned", fn := fun _ => fun
  | [d1, d2, d3] => { results := [.lit (.bool false)], args := [d1, d2, d3] }
  | _ => none }
def PageTurnedWrongFalsely : Prop := pageTurnedRow.holds Try.pinned (OpenSpec.ofChange pageTurnedWrong)

/-- 'sapwoodlaw04.PageRights': WHATEVER THE INPUT: true; the input reads as it did. -/
def pageRightsSpec : ChangeSpec := { name := "pageRights", fn := fun _ => fun
  | [d] => { results := [.lit (.bool true)], args := [d] }
  | _ => none }
def pageRightsRow : OpenClaim := { program := "ytgbcfkcnoncgdaa", sum := "95ac6a0b36c4338a4ad8b4b707a16f333a8444ed735962ff1cf69600d1730d74", func := "sapwood/sapwoodlaw04.PageRights", spec := "pageRights", apart := false }
def PageRightsSaid : Prop := pageRightsRow.holds Try.pinned (OpenSpec.ofChange pageRightsSpec)

/-- ITS FALSE NEIGHBOUR: 'it returns false'. Refute it at one input. -/
def pageRightsWrong : ChangeSpec := { name := "pageRights", fn := fun _ => fun
  | [d] => { results := [.lit (.bool false)], args := [d] }
  | _ => none }
def PageRightsWrongFalsely : Prop := pageRightsRow.holds Try.pinned (OpenSpec.ofChange pageRightsWrong)

/-- 'sapwoodlaw04.PageKinds': WHATEVER THE INPUT: true; the input reads as it did. -/
def pageKindsSpec : ChangeSpec := { name := "pageKinds", fn := fun _ => fun
  | [d1, d2] => { results := [.lit (.bool true)], args := [d1, d2] }
  | _ => none }
def pageKindsRow : OpenClaim := { program := "ytgbcfkcnoncgdaa", sum := "95ac6a0b36c4338a4ad8b4b707a16f333a8444ed735962ff1cf69600d1730d74", func := "sapwood/sapwoodlaw04.PageKinds", spec := "pageKinds", apart := false }
def PageKindsSaid : Prop := pageKindsRow.holds Try.pinned (OpenSpec.ofChange pageKindsSpec)

/-- ITS FALSE NEIGHBOUR: 'it returns false'. Refute it at one input. -/
def pageKindsWrong : ChangeSpec := { name := "pageKinds", fn := fun _ => fun
  | [d1, d2] => { results := [.lit (.bool false)], args := [d1, d2] }
  | _ => none }
def PageKindsWrongFalsely : Prop := pageKindsRow.holds Try.pinned (OpenSpec.ofChange pageKindsWrong)

/-- 'sapwoodlaw04.PageDecodes': WHATEVER THE INPUT: true; the input reads as it did. -/
def pageDecodesSpec : ChangeSpec := { name := "pageDecodes", fn := fun _ => fun
  | [d] => { results := [.lit (.bool true)], args := [d] }
  | _ => none }
def pageDecodesRow : OpenClaim := { program := "ytgbcfkcnoncgdaa", sum := "95ac6a0b36c4338a4ad8b4b707a16f333a8444ed735962ff1cf69600d1730d74", func := "sapwood/sapwoodlaw04.PageDecodes", spec := "pageDecodes", apart := false }
def PageDecodesSaid : Prop := pageDecodesRow.holds Try.pinned (OpenSpec.ofChange pageDecodesSpec)

/-- ITS FALSE NEIGHBOUR: 'it returns false'. Refute it at one input. -/
def pageDecodesWrong : ChangeSpec := { name := "pageDecodes", fn := fun _ => fun
  | [d] => { results := [.lit (.bool false)], args := [d] }
  | _ => none }
def PageDecodesWrongFalsely : Prop := pageDecodesRow.holds Try.pinned (OpenSpec.ofChange pageDecodesWrong)

/-- 'sapwoodlaw04.PageBack': WHATEVER THE INPUT: true; the input reads as it did. -/
def pageBackSpec : ChangeSpec := { name := "pageBack", fn := fun _ => fun
  | [d1, d2] => { results := [.lit (.bool true)], args := [d1, d2] }
  | _ => none }
def pageBackRow : OpenClaim := { program := "ytgbcfkcnoncgdaa", sum := "95ac6a0b36c4338a4ad8b4b707a16f333a8444ed735962ff1cf69600d1730d74", func := "sapwood/sapwoodlaw04.PageBack", spec := "pageBack", apart := false }
def PageBackSaid : Prop := pageBackRow.holds Try.pinned (OpenSpec.ofChange pageBackSpec)

/-- ITS FALSE NEIGHBOUR: 'it returns false'. Refute it at one input. -/
def pageBackWrong : ChangeSpec := { name := "pageBack", fn := fun _ => fun
  | [d1, d2] => { results := [.lit (.bool false)], args := [d1, d2] }
  | _ => none }
def PageBackWrongFalsely : Prop := pageBackRow.holds Try.pinned (OpenSpec.ofChange pageBackWrong)

/- THE SECOND FORM. 'bulk': how many values and letters a reading holds, each counted each time it is reached (what is shared counts as often as it is met; a slice's spare places count too). A statement '..UptoSaid' is the law's where the arguments, and the package variables that the reading takes, are together of bulk at most 1048576: NARROWER than '..Said'. Prove '..Said' where nothing that the law and all that it calls make is longer than what came in: it says more and counts as full. Else prove '..UptoSaid'. A law counts once. -/
mutual
def uptoBulk {H : Type} : DataW H → Nat
  | .lit (.string bytes) => bytes.length + 1
  | .lit _ => 1
  | .nil => 1
  | .ptr d => uptoBulk d + 1
  | .slice elems spare => uptoBulkAll elems + uptoBulkAll spare + 1
  | .agg parts => uptoBulkAll parts + 1
  | .iface _ d => uptoBulk d + 1
  | .map entries => uptoBulkEntries entries + 1
  | .held _ => 1
def uptoBulkAll {H : Type} : List (DataW H) → Nat
  | [] => 0
  | d :: r => uptoBulk d + uptoBulkAll r
def uptoBulkEntries {H : Type} : List (Lit × DataW H) → Nat
  | [] => 0
  | x :: r => uptoBulkEntry x + uptoBulkEntries r
def uptoBulkEntry {H : Type} : Lit × DataW H → Nat
  | (.string bytes, d) => bytes.length + uptoBulk d + 1
  | (_, d) => uptoBulk d + 1
 end
def uptoSmall : (H : Type) → List (DataW H) → Bool := fun _ ds => decide (uptoBulkAll ds ≤ 1048576)
def OpenSpec.upto (s : _root_.Go.ChangeSpec) : _root_.Go.OpenSpec := { _root_.Go.OpenSpec.ofChange s with cond := some uptoSmall }

/-- 'sapwoodlaw04.PageOne', WHERE WHAT IT READS IS OF BULK AT MOST 1048576: true; the input reads as it did. -/
def pageOneUptoRow : OpenClaim := { program := "ytgbcfkcnoncgdaa", sum := "95ac6a0b36c4338a4ad8b4b707a16f333a8444ed735962ff1cf69600d1730d74", func := "sapwood/sapwoodlaw04.PageOne", spec := "pageOne", apart := false, narrowed := true }
def PageOneUptoSaid : Prop := pageOneUptoRow.holds Try.pinned (OpenSpec.upto pageOneSpec)

/-- 'sapwoodlaw04.PageTurned', WHERE WHAT IT READS IS OF BULK AT MOST 1048576: true; the input reads as it did. -/
def pageTurnedUptoRow : OpenClaim := { program := "ytgbcfkcnoncgdaa", sum := "95ac6a0b36c4338a4ad8b4b707a16f333a8444ed735962ff1cf69600d1730d74", func := "sapwood/sapwoodlaw04.PageTurned", spec := "pageTurned", apart := false, narrowed := true }
def PageTurnedUptoSaid : Prop := pageTurnedUptoRow.holds Try.pinned (OpenSpec.upto pageTurnedSpec)

/-- 'sapwoodlaw04.PageRights', WHERE WHAT IT READS IS OF BULK AT MOST 1048576: true; the input reads as it did. -/
def pageRightsUptoRow : OpenClaim := { program := "ytgbcfkcnoncgdaa", sum := "95ac6a0b36c4338a4ad8b4b707a16f333a8444ed735962ff1cf69600d1730d74", func := "sapwood/sapwoodlaw04.PageRights", spec := "pageRights", apart := false, narrowed := true }
def PageRightsUptoSaid : Prop := pageRightsUptoRow.holds Try.pinned (OpenSpec.upto pageRightsSpec)

/-- 'sapwoodlaw04.PageKinds', WHERE WHAT IT READS IS OF BULK AT MOST 1048576: true; the input reads as it did. -/
def pageKindsUptoRow : OpenClaim := { program := "ytgbcfkcnoncgdaa", sum := "95ac6a0b36c4338a4ad8b4b707a16f333a8444ed735962ff1cf69600d1730d74", func := "sapwood/sapwoodlaw04.PageKinds", spec := "pageKinds", apart := false, narrowed := true }
def PageKindsUptoSaid : Prop := pageKindsUptoRow.holds Try.pinned (OpenSpec.upto pageKindsSpec)

/-- 'sapwoodlaw04.PageDecodes', WHERE WHAT IT READS IS OF BULK AT MOST 1048576: true; the input reads as it did. -/
def pageDecodesUptoRow : OpenClaim := { program := "ytgbcfkcnoncgdaa", sum := "95ac6a0b36c4338a4ad8b4b707a16f333a8444ed735962ff1cf69600d1730d74", func := "sapwood/sapwoodlaw04.PageDecodes", spec := "pageDecodes", apart := false, narrowed := true }
def PageDecodesUptoSaid : Prop := pageDecodesUptoRow.holds Try.pinned (OpenSpec.upto pageDecodesSpec)

/-- 'sapwoodlaw04.PageBack', WHERE WHAT IT READS IS OF BULK AT MOST 1048576: true; the input reads as it did. -/
def pageBackUptoRow : OpenClaim := { program := "ytgbcfkcnoncgdaa", sum := "95ac6a0b36c4338a4ad8b4b707a16f333a8444ed735962ff1cf69600d1730d74", func := "sapwood/sapwoodlaw04.PageBack", spec := "pageBack", apart := false, narrowed := true }
def PageBackUptoSaid : Prop := pageBackUptoRow.holds Try.pinned (OpenSpec.upto pageBackSpec)

end Rows
end Go.Proofs.Ytgbcfkcnoncgdaa
