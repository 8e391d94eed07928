/- By hand: Decode of the document, for any string (rdecode_any), and, in plain Lean, what its other functions come to. No condition. -/
import Derived.Test.YtgbcfkcnoncgdaaHandB
namespace Go.Proofs.Ytgbcfkcnoncgdaa.Pure
open Go.Proofs.Ytgbcfkcnoncgdaa.Hand
open Go.RowKit Go.Proofs.Ytgbcfkcnoncgdaa.Sp Go.Proofs.YtgbcfkcnoncgdaaW.PrintWords Go.Proofs.YtgbcfkcnoncgdaaW.PrintLast
def cv (c : S64) : S57 := ⟨c.f0, c.f1, c.f2, c.f3⟩
def cw (c : S65) : S61 := ⟨c.f0, c.f1⟩
end Go.Proofs.Ytgbcfkcnoncgdaa.Pure
