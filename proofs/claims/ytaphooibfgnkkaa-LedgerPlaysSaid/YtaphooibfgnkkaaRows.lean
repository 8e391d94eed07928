/-
  No cell of these rows narrows 'for every input' (looked for: loops, veiled, ifaces, maps, wideKeys, modest, calm, conditions, laid).
  DERIVED. THE GIVEN ROWS OF THIS SEAT. 5 by the template 'for every input the law returns true; each argument reads behind the call as it read before'; 0 by the template 'total and deterministic' (their statements: YtaphooibfgnkkaaTotals.lean).
  GIVEN WITH THE SEED: the statements are not yours to turn. If you find one false, say at which input.
  Laid BY PROGRAM, IN A SANDBOX (cutbox-rows.mjs): the forced cells as the released guide's own fill.sh prints them over the translation 87df4e8755a1bd49… (all of the seat's roots in one cut). By AI agents, Wed Nov 11 2026. No macro, syntax, notation, axiom, sorry.
-/
import Derived.Test.YtaphooibfgnkkaaChecked
import GoSem.Claim
import GoSem.ClaimJoined
import GoSem.ClaimMapViews
import Derived.JoinedTies
import Derived.KernelRfl
namespace Go.Proofs.Ytaphooibfgnkkaa
/- THE CELL 'sum', in the pinned program and in every row, IS THE sha256 OF THE DUMP (.gsa) THAT YtaphooibfgnkkaaProg.lean LOADS. Nothing in Lean hashes anything: it is a label: what it is worth is what the hold of that sum in a sandbox is worth. -/
noncomputable def Try.pinned : Pinned := { name := "ytaphooibfgnkkaa", sum := "87df4e8755a1bd491db482a80a33a5f434e51e329b14ca9ba10e2c4cd0cfcd9e", checked := Try.checked }
namespace Rows
def none {H : Type} : Left H := { results := [], args := [] }

/-- 'sapwoodlaw13.LedgerTwo': WHATEVER THE INPUT: true; the input reads as it did. -/
def ledgerTwoSpec : ChangeSpec := { name := "ledgerTwo", fn := fun _ => fun
  | [d] => { results := [.lit (.bool true)], args := [d] }
  | _ => none }
def ledgerTwoRow : OpenClaim := { program := "ytaphooibfgnkkaa", sum := "87df4e8755a1bd491db482a80a33a5f434e51e329b14ca9ba10e2c4cd0cfcd9e", func := "sapwood/sapwoodlaw13.LedgerTwo", spec := "ledgerTwo", apart := false }
def LedgerTwoSaid : Prop := ledgerTwoRow.holds Try.pinned (OpenSpec.ofChange ledgerTwoSpec)

/-- ITS FALSE NEIGHBOUR: 'it returns false'. Refute it at one input. -/
def ledgerTwoWrong : ChangeSpec := { name := "ledgerTwo", fn := fun _ => fun
  | [d] => { results := [.lit (.bool false)], args := [d] }
  | _ => none }
def LedgerTwoWrongFalsely : Prop := ledgerTwoRow.holds Try.pinned (OpenSpec.ofChange ledgerTwoWrong)

/-- 'sapwoodlaw13.LedgerCounts': WHATEVER THE INPUT: true; the input reads as it did. -/
def ledgerCountsSpec : ChangeSpec := { name := "ledgerCounts", fn := fun _ => fun
  | [d1, d2, d3, d4] => { results := [.lit (.bool true)], args := [d1, d2, d3, d4] }
  | _ => none }
def ledgerCountsRow : OpenClaim := { program := "ytaphooibfgnkkaa", sum := "87df4e8755a1bd491db482a80a33a5f434e51e329b14ca9ba10e2c4cd0cfcd9e", func := "sapwood/sapwoodlaw13.LedgerCounts", spec := "ledgerCounts", apart := false }
def LedgerCountsSaid : Prop := ledgerCountsRow.holds Try.pinned (OpenSpec.ofChange ledgerCountsSpec)

/-- ITS FALSE NEIGHBOUR: 'it returns false'. Refute it at one input. -/
def ledgerCountsWrong : ChangeSpec := { name := "ledgerCounts", fn := fun _ => fun
  | [d1, d2, d3, d4] => { results := [.lit (.bool false)], args := [d1, d2, d3, d4] }
  | _ => none }
def LedgerCountsWrongFalsely : Prop := ledgerCountsRow.holds Try.pinned (OpenSpec.ofChange ledgerCountsWrong)

/-- 'sapwoodlaw13.LedgerOnce': WHATEVER THE INPUT: true; the input reads as it did. -/
def ledgerOnceSpec : ChangeSpec := { name := "ledgerOnce", fn := fun _ => fun
  | [d1, d2, d3] => { results := [.lit (.bool true)], args := [d1, d2, d3] }
  | _ => none }
def ledgerOnceRow : OpenClaim := { program := "ytaphooibfgnkkaa", sum := "87df4e8755a1bd491db482a80a33a5f434e51e329b14ca9ba10e2c4cd0cfcd9e", func := "sapwood/sapwoodlaw13.LedgerOnce", spec := "ledgerOnce", apart := false }
def LedgerOnceSaid : Prop := ledgerOnceRow.holds Try.pinned (OpenSpec.ofChange ledgerOnceSpec)

/-- ITS FALSE NEIGHBOUR: 'it returns false'. Refute it at one input. -/
def ledgerOnceWrong : ChangeSpec := { name := "ledgerOnce", fn := fun _ => fun
  | [d1, d2, d3] => { results := [.lit (.bool false)], args := [d1, d2, d3] }
  | _ => none }
def LedgerOnceWrongFalsely : Prop := ledgerOnceRow.holds Try.pinned (OpenSpec.ofChange ledgerOnceWrong)

/-- 'sapwoodlaw13.LedgerPlays': WHATEVER THE INPUT: true; the input reads as it did. -/
def ledgerPlaysSpec : ChangeSpec := { name := "ledgerPlays", fn := fun _ => fun
  | [d1, d2] => { results := [.lit (.bool true)], args := [d1, d2] }
  | _ => none }
def ledgerPlaysRow : OpenClaim := { program := "ytaphooibfgnkkaa", sum := "87df4e8755a1bd491db482a80a33a5f434e51e329b14ca9ba10e2c4cd0cfcd9e", func := "sapwood/sapwoodlaw13.LedgerPlays", spec := "ledgerPlays", apart := false }
def LedgerPlaysSaid : Prop := ledgerPlaysRow.holds Try.pinned (OpenSpec.ofChange ledgerPlaysSpec)

/-- ITS FALSE NEIGHBOUR: 'it returns false'. Refute it at one input. -/
def ledgerPlaysWrong : ChangeSpec := { name := "ledgerPlays", fn := fun _ => fun
  | [d1, d2] => { results := [.lit (.bool false)], args := [d1, d2] }
  | _ => none }
def LedgerPlaysWrongFalsely : Prop := ledgerPlaysRow.holds Try.pinned (OpenSpec.ofChange ledgerPlaysWrong)

/-- 'sapwoodlaw13.LedgerNil': WHATEVER THE INPUT: true; the input reads as it did. -/
def ledgerNilSpec : ChangeSpec := { name := "ledgerNil", fn := fun _ => fun
  | [d1, d2] => { results := [.lit (.bool true)], args := [d1, d2] }
  | _ => none }
def ledgerNilRow : OpenClaim := { program := "ytaphooibfgnkkaa", sum := "87df4e8755a1bd491db482a80a33a5f434e51e329b14ca9ba10e2c4cd0cfcd9e", func := "sapwood/sapwoodlaw13.LedgerNil", spec := "ledgerNil", apart := false }
def LedgerNilSaid : Prop := ledgerNilRow.holds Try.pinned (OpenSpec.ofChange ledgerNilSpec)

/-- ITS FALSE NEIGHBOUR: 'it returns false'. Refute it at one input. -/
def ledgerNilWrong : ChangeSpec := { name := "ledgerNil", fn := fun _ => fun
  | [d1, d2] => { results := [.lit (.bool false)], args := [d1, d2] }
  | _ => none }
def LedgerNilWrongFalsely : Prop := ledgerNilRow.holds Try.pinned (OpenSpec.ofChange ledgerNilWrong)

/- THE SECOND FORM. 'bulk': how many values and letters a reading holds, each counted each time it is reached (what is shared counts as often as it is met; a slice's spare places count too). A statement '..UptoSaid' is the law's where the arguments, and the package variables that the reading takes, are together of bulk at most 1048576: NARROWER than '..Said'. Prove '..Said' where nothing that the law and all that it calls make is longer than what came in: it says more and counts as full. Else prove '..UptoSaid'. A law counts once. -/
mutual
def uptoBulk {H : Type} : DataW H → Nat
  | .lit (.string bytes) => bytes.length + 1
  | .lit _ => 1
  | .nil => 1
  | .ptr d => uptoBulk d + 1
  | .slice elems spare => uptoBulkAll elems + uptoBulkAll spare + 1
  | .agg parts => uptoBulkAll parts + 1
  | .iface _ d => uptoBulk d + 1
  | .map entries => uptoBulkEntries entries + 1
  | .held _ => 1
def uptoBulkAll {H : Type} : List (DataW H) → Nat
  | [] => 0
  | d :: r => uptoBulk d + uptoBulkAll r
def uptoBulkEntries {H : Type} : List (Lit × DataW H) → Nat
  | [] => 0
  | x :: r => uptoBulkEntry x + uptoBulkEntries r
def uptoBulkEntry {H : Type} : Lit × DataW H → Nat
  | (.string bytes, d) => bytes.length + uptoBulk d + 1
  | (_, d) => uptoBulk d + 1
 end
def uptoSmall : (H : Type) → List (DataW H) → Bool := fun _ ds => decide (uptoBulkAll ds ≤ 1048576)
def OpenSpec.upto (s : _root_.Go.ChangeSpec) : _root_.Go.OpenSpec := { _root_.Go.OpenSpec.ofChange s with cond := some uptoSmall }

/-- 'sapwoodlaw13.LedgerTwo', WHERE WHAT IT READS IS OF BULK AT MOST 1048576: true; the input reads as it did. -/
def ledgerTwoUptoRow : OpenClaim := { program := "ytaphooibfgnkkaa", sum := "87df4e8755a1bd491db482a80a33a5f434e51e329b14ca9ba10e2c4cd0cfcd9e", func := "sapwood/sapwoodlaw13.LedgerTwo", spec := "ledgerTwo", apart := false, narrowed := true }
def LedgerTwoUptoSaid : Prop := ledgerTwoUptoRow.holds Try.pinned (OpenSpec.upto ledgerTwoSpec)

/-- 'sapwoodlaw13.LedgerCounts', WHERE WHAT IT READS IS OF BULK AT MOST 1048576: true; the input reads as it did. -/
def ledgerCountsUptoRow : OpenClaim := { program := "ytaphooibfgnkkaa", sum := "87df4e8755a1bd491db482a80a33a5f434e51e329b14ca9ba10e2c4cd0cfcd9e", func := "sapwood/sapwoodlaw13.LedgerCounts", spec := "ledgerCounts", apart := false, narrowed := true }
def LedgerCountsUptoSaid : Prop := ledgerCountsUptoRow.holds Try.pinned (OpenSpec.upto ledgerCountsSpec)

/-- 'sapwoodlaw13.LedgerOnce', WHERE WHAT IT READS IS OF BULK AT MOST 1048576: true; the input reads as it did. -/
def ledgerOnceUptoRow : OpenClaim := { program := "ytaphooibfgnkkaa", sum := "87df4e8755a1bd491db482a80a33a5f434e51e329b14ca9ba10e2c4cd0cfcd9e", func := "sapwood/sapwoodlaw13.LedgerOnce", spec := "ledgerOnce", apart := false, narrowed := true }
def LedgerOnceUptoSaid : Prop := ledgerOnceUptoRow.holds Try.pinned (OpenSpec.upto ledgerOnceSpec)

/-- 'sapwoodlaw13.LedgerPlays', WHERE WHAT IT READS IS OF BULK AT MOST 1048576: true; the input reads as it did. -/
def ledgerPlaysUptoRow : OpenClaim := { program := "ytaphooibfgnkkaa", sum := "87df4e8755a1bd491db482a80a33a5f434e51e329b14ca9ba10e2c4cd0cfcd9e", func := "sapwood/sapwoodlaw13.LedgerPlays", spec := "ledgerPlays", apart := false, narrowed := true }
def LedgerPlaysUptoSaid : Prop := ledgerPlaysUptoRow.holds Try.pinned (OpenSpec.upto ledgerPlaysSpec)

/-- 'sapwoodlaw13.LedgerNil', WHERE WHAT IT READS IS OF BULK AT MOST 1048576: true; the input reads as it did. -/
def ledgerNilUptoRow : OpenClaim := { program := "ytaphooibfgnkkaa", sum := "87df4e8755a1bd491db482a80a33a5f434e51e329b14ca9ba10e2c4cd0cfcd9e", func := "sapwood/sapwoodlaw13.LedgerNil", spec := "ledgerNil", apart := false, narrowed := true }
def LedgerNilUptoSaid : Prop := ledgerNilUptoRow.holds Try.pinned (OpenSpec.upto ledgerNilSpec)

end Rows
end Go.Proofs.Ytaphooibfgnkkaa
