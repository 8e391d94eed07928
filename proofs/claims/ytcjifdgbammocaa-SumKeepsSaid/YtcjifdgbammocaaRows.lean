/-
  No cell of these rows narrows 'for every input' (looked for: loops, veiled, ifaces, maps, wideKeys, modest, calm, conditions, laid).
  DERIVED. THE GIVEN ROWS OF THIS SEAT. 6 by the template 'for every input the law returns true; each argument reads behind the call as it read before'; 0 by the template 'total and deterministic' (their statements: YtcjifdgbammocaaTotals.lean).
  GIVEN WITH THE SEED: the statements are not yours to turn. If you find one false, say at which input.
  Laid BY PROGRAM, IN A SANDBOX (cutbox-rows.mjs): the forced cells as the released guide's own fill.sh prints them over the translation a242bd42766bdae1… (all of the seat's roots in one cut). By AI agents, Wed Nov 11 2026. No macro, syntax, notation, axiom, sorry.
-/
import Derived.Test.YtcjifdgbammocaaChecked
import GoSem.Claim
import GoSem.ClaimJoined
import GoSem.ClaimMapViews
import Derived.JoinedTies
import Derived.KernelRfl
namespace Go.Proofs.Ytcjifdgbammocaa
/- THE CELL 'sum', in the pinned program and in every row, IS THE sha256 OF THE DUMP (.gsa) THAT YtcjifdgbammocaaProg.lean LOADS. Nothing in Lean hashes anything: it is a label: what it is worth is what the hold of that sum in a sandbox is worth. -/
noncomputable def Try.pinned : Pinned := { name := "ytcjifdgbammocaa", sum := "a242bd42766bdae1fe7912fb2baf171c9d4e7f089d015e50e11ae3598b3c21de", checked := Try.checked }
namespace Rows
def none {H : Type} : Left H := { results := [], args := [] }

/-- 'sapwoodlaw02.SumLinear': WHATEVER THE INPUT: true; the input reads as it did. -/
def sumLinearSpec : ChangeSpec := { name := "sumLinear", fn := fun _ => fun
  | [d1, d2] => { results := [.lit (.bool true)], args := [d1, d2] }
  | _ => none }
def sumLinearRow : OpenClaim := { program := "ytcjifdgbammocaa", sum := "a242bd42766bdae1fe7912fb2baf171c9d4e7f089d015e50e11ae3598b3c21de", func := "sapwood/sapwoodlaw02.SumLinear", spec := "sumLinear", apart := false }
def SumLinearSaid : Prop := sumLinearRow.holds Try.pinned (OpenSpec.ofChange sumLinearSpec)

/-- ITS FALSE NEIGHBOUR: 'it returns false'. Refute it at one input. -/
def sumLinearWrong : ChangeSpec := { name := "sumLinear", fn := fun _ => fun
  | [d1, d2] => { results := [.lit (.bool false)], args := [d1, d2] }
  | _ => none }
def SumLinearWrongFalsely : Prop := sumLinearRow.holds Try.pinned (OpenSpec.ofChange sumLinearWrong)

/-- 'sapwoodlaw02.SumChecks': WHATEVER THE INPUT: true; the input reads as it did. -/
def sumChecksSpec : ChangeSpec := { name := "sumChecks", fn := fun _ => fun
  | [d] => { results := [.lit (.bool true)], args := [d] }
  | _ => none }
def sumChecksRow : OpenClaim := { program := "ytcjifdgbammocaa", sum := "a242bd42766bdae1fe7912fb2baf171c9d4e7f089d015e50e11ae3598b3c21de", func := "sapwood/sapwoodlaw02.SumChecks", spec := "sumChecks", apart := false }
def SumChecksSaid : Prop := sumChecksRow.holds Try.pinned (OpenSpec.ofChange sumChecksSpec)

/-- ITS FALSE NEIGHBOUR: 'it returns false'. Refute it at one input. -/
def sumChecksWrong : ChangeSpec := { name := "sumChecks", fn := fun _ => fun
  | [d] => { results := [.lit (.bool false)], args := [d] }
  | _ => none }
def SumChecksWrongFalsely : Prop := sumChecksRow.holds Try.pinned (OpenSpec.ofChange sumChecksWrong)

/-- 'sapwoodlaw02.SumBack': WHATEVER THE INPUT: true; the input reads as it did. -/
def sumBackSpec : ChangeSpec := { name := "sumBack", fn := fun _ => fun
  | [d] => { results := [.lit (.bool true)], args := [d] }
  | _ => none }
def sumBackRow : OpenClaim := { program := "ytcjifdgbammocaa", sum := "a242bd42766bdae1fe7912fb2baf171c9d4e7f089d015e50e11ae3598b3c21de", func := "sapwood/sapwoodlaw02.SumBack", spec := "sumBack", apart := false }
def SumBackSaid : Prop := sumBackRow.holds Try.pinned (OpenSpec.ofChange sumBackSpec)

/-- ITS FALSE NEIGHBOUR: 'it returns false'. Refute it at one input. -/
def sumBackWrong : ChangeSpec := { name := "sumBack", fn := fun _ => fun
  | [d] => { results := [.lit (.bool false)], args := [d] }
  | _ => none }
def SumBackWrongFalsely : Prop := sumBackRow.holds Try.pinned (OpenSpec.ofChange sumBackWrong)

/-- 'sapwoodlaw02.SumTurned': WHATEVER THE INPUT: true; the input reads as it did. -/
def sumTurnedSpec : ChangeSpec := { name := "sumTurned", fn := fun _ => fun
  | [d1, d2, d3] => { results := [.lit (.bool true)], args := [d1, d2, d3] }
  | _ => none }
def sumTurnedRow : OpenClaim := { program := "ytcjifdgbammocaa", sum := "a242bd42766bdae1fe7912fb2baf171c9d4e7f089d015e50e11ae3598b3c21de", func := "sapwood/sapwoodlaw02.SumTurned", spec := "sumTurned", apart := false }
def SumTurnedSaid : Prop := sumTurnedRow.holds Try.pinned (OpenSpec.ofChange sumTurnedSpec)

/-- ITS FALSE NEIGHBOUR: 'it returns false'. Refute it at one input. -/
def sumTurnedWrong : ChangeSpec := { name := "sumTurned", fn := fun _ => fun
  | [d1, d2, d3] => { results := [.lit (.bool false)], args := [d1, d2, d3] }
  | _ => none }
def SumTurnedWrongFalsely : Prop := sumTurnedRow.holds Try.pinned (OpenSpec.ofChange sumTurnedWrong)

/-- 'sapwoodlaw02.SumKeeps': WHATEVER THE INPUT: true; the input reads as it did. -/
def sumKeepsSpec : ChangeSpec := { name := "sumKeeps", fn := fun _ => fun
  | [d] => { results := [.lit (.bool true)], args := [d] }
  | _ => none }
def sumKeepsRow : OpenClaim := { program := "ytcjifdgbammocaa", sum := "a242bd42766bdae1fe7912fb2baf171c9d4e7f089d015e50e11ae3598b3c21de", func := "sapwood/sapwoodlaw02.SumKeeps", spec := "sumKeeps", apart := false }
def SumKeepsSaid : Prop := sumKeepsRow.holds Try.pinned (OpenSpec.ofChange sumKeepsSpec)

/-- ITS FALSE NEIGHBOUR: 'it returns false'. Refute it at one input. -/
def sumKeepsWrong : ChangeSpec := { name := "sumKeeps", fn := fun _ => fun
  | [d] => { results := [.lit (.bool false)], args := [d] }
  | _ => none }
def SumKeepsWrongFalsely : Prop := sumKeepsRow.holds Try.pinned (OpenSpec.ofChange sumKeepsWrong)

/-- 'sapwoodlaw02.SumLonger': WHATEVER THE INPUT: true; the input reads as it did. -/
def sumLongerSpec : ChangeSpec := { name := "sumLonger", fn := fun _ => fun
  | [d] => { results := [.lit (.bool true)], args := [d] }
  | _ => none }
def sumLongerRow : OpenClaim := { program := "ytcjifdgbammocaa", sum := "a242bd42766bdae1fe7912fb2baf171c9d4e7f089d015e50e11ae3598b3c21de", func := "sapwood/sapwoodlaw02.SumLonger", spec := "sumLonger", apart := false }
def SumLongerSaid : Prop := sumLongerRow.holds Try.pinned (OpenSpec.ofChange sumLongerSpec)

/-- ITS FALSE NEIGHBOUR: 'it returns false'. Refute it at one input. -/
def sumLongerWrong : ChangeSpec := { name := "sumLonger", fn := fun _ => fun
  | [d] => { results := [.lit (.bool false)], args := [d] }
  | _ => none }
def SumLongerWrongFalsely : Prop := sumLongerRow.holds Try.pinned (OpenSpec.ofChange sumLongerWrong)

/- THE SECOND FORM. 'bulk': how many values and letters a reading holds, each counted each time it is reached (what is shared counts as often as it is met; a slice's spare places count too). A statement '..UptoSaid' is the law's where the arguments, and the package variables that the reading takes, are together of bulk at most 1048576: NARROWER than '..Said'. Prove '..Said' where nothing that the law and all that it calls make is longer than what came in: it says more and counts as full. Else prove '..UptoSaid'. A law counts once. -/
mutual
def uptoBulk {H : Type} : DataW H → Nat
  | .lit (.string bytes) => bytes.length + 1
  | .lit _ => 1
  | .nil => 1
  | .ptr d => uptoBulk d + 1
  | .slice elems spare => uptoBulkAll elems + uptoBulkAll spare + 1
  | .agg parts => uptoBulkAll parts + 1
  | .iface _ d => uptoBulk d + 1
  | .map entries => uptoBulkEntries entries + 1
  | .held _ => 1
def uptoBulkAll {H : Type} : List (DataW H) → Nat
  | [] => 0
  | d :: r => uptoBulk d + uptoBulkAll r
def uptoBulkEntries {H : Type} : List (Lit × DataW H) → Nat
  | [] => 0
  | x :: r => uptoBulkEntry x + uptoBulkEntries r
def uptoBulkEntry {H : Type} : Lit × DataW H → Nat
  | (.string bytes, d) => bytes.length + uptoBulk d + 1
  | (_, d) => uptoBulk d + 1
 end
def uptoSmall : (H : Type) → List (DataW H) → Bool := fun _ ds => decide (uptoBulkAll ds ≤ 1048576)
def OpenSpec.upto (s : _root_.Go.ChangeSpec) : _root_.Go.OpenSpec := { _root_.Go.OpenSpec.ofChange s with cond := some uptoSmall }

/-- 'sapwoodlaw02.SumLinear', WHERE WHAT IT READS IS OF BULK AT MOST 1048576: true; the input reads as it did. -/
def sumLinearUptoRow : OpenClaim := { program := "ytcjifdgbammocaa", sum := "a242bd42766bdae1fe7912fb2baf171c9d4e7f089d015e50e11ae3598b3c21de", func := "sapwood/sapwoodlaw02.SumLinear", spec := "sumLinear", apart := false, narrowed := true }
def SumLinearUptoSaid : Prop := sumLinearUptoRow.holds Try.pinned (OpenSpec.upto sumLinearSpec)

/-- 'sapwoodlaw02.SumChecks', WHERE WHAT IT READS IS OF BULK AT MOST 1048576: true; the input reads as it did. -/
def sumChecksUptoRow : OpenClaim := { program := "ytcjifdgbammocaa", sum := "a242bd42766bdae1fe7912fb2baf171c9d4e7f089d015e50e11ae3598b3c21de", func := "sapwood/sapwoodlaw02.SumChecks", spec := "sumChecks", apart := false, narrowed := true }
def SumChecksUptoSaid : Prop := sumChecksUptoRow.holds Try.pinned (OpenSpec.upto sumChecksSpec)

/-- 'sapwoodlaw02.SumBack', WHERE WHAT IT READS IS OF BULK AT MOST 1048576: true; the input reads as it did. -/
def sumBackUptoRow : OpenClaim := { program := "ytcjifdgbammocaa", sum := "a242bd42766bdae1fe7912fb2baf171c9d4e7f089d015e50e11ae3598b3c21de", func := "sapwood/sapwoodlaw02.SumBack", spec := "sumBack", apart := false, narrowed := true }
def SumBackUptoSaid : Prop := sumBackUptoRow.holds Try.pinned (OpenSpec.upto sumBackSpec)

/-- 'sapwoodlaw02.SumTurned', WHERE WHAT IT READS IS OF BULK AT MOST 1048576: true; the input reads as it did. -/
def sumTurnedUptoRow : OpenClaim := { program := "ytcjifdgbammocaa", sum := "a242bd42766bdae1fe7912fb2baf171c9d4e7f089d015e50e11ae3598b3c21de", func := "sapwood/sapwoodlaw02.SumTurned", spec := "sumTurned", apart := false, narrowed := true }
def SumTurnedUptoSaid : Prop := sumTurnedUptoRow.holds Try.pinned (OpenSpec.upto sumTurnedSpec)

/-- 'sapwoodlaw02.SumKeeps', WHERE WHAT IT READS IS OF BULK AT MOST 1048576: true; the input reads as it did. -/
def sumKeepsUptoRow : OpenClaim := { program := "ytcjifdgbammocaa", sum := "a242bd42766bdae1fe7912fb2baf171c9d4e7f089d015e50e11ae3598b3c21de", func := "sapwood/sapwoodlaw02.SumKeeps", spec := "sumKeeps", apart := false, narrowed := true }
def SumKeepsUptoSaid : Prop := sumKeepsUptoRow.holds Try.pinned (OpenSpec.upto sumKeepsSpec)

/-- 'sapwoodlaw02.SumLonger', WHERE WHAT IT READS IS OF BULK AT MOST 1048576: true; the input reads as it did. -/
def sumLongerUptoRow : OpenClaim := { program := "ytcjifdgbammocaa", sum := "a242bd42766bdae1fe7912fb2baf171c9d4e7f089d015e50e11ae3598b3c21de", func := "sapwood/sapwoodlaw02.SumLonger", spec := "sumLonger", apart := false, narrowed := true }
def SumLongerUptoSaid : Prop := sumLongerUptoRow.holds Try.pinned (OpenSpec.upto sumLongerSpec)

end Rows
end Go.Proofs.Ytcjifdgbammocaa
