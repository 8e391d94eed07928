/- What was sealed is opened as it was: for every string that the law looks at. -/
import Derived.Test.YtcjifdgbammocaaSumPure
import Derived.Test.YtcjifdgbammocaaSp3
namespace Go.Proofs.Ytcjifdgbammocaa.Pure
open Go.Proofs.Ytcjifdgbammocaa.Hand
open Go.RowKit Go.Proofs.Ytcjifdgbammocaa.Sp Go.Proofs.YtcjifdgbammocaaW.PrintWords Go.Proofs.YtcjifdgbammocaaW.PrintLast

theorem SumBack : sapwoodlaw02_SumBack.Pure := by
  intro s hs
  refine ⟨s.size + 6, ?_⟩
  unfold sapwoodlaw02_SumBack.f sapwoodlaw02_awake.f
  simp only [Option.bind_some, if_true]
  simp only [sapwoodlaw02_SumBack.j0]
  by_cases h5 : (s.size : Int) > 5000
  · rw [if_pos (by simpa using h5)]
    rfl
  · rw [if_neg (by simpa using h5), if_pos (by omega), seal_f (bytesOf_all s) (by rw [bytesOf_length]; omega)]
    simp only [Option.bind_some]
    have hl : (sealL (bytesOf s)).length = s.size + 4 := by rw [sealL_length, bytesOf_length]
    rw [open_f (sealL_bytes (bytesOf_all s)) (by omega) _ (by omega), if_pos (opened_seal _), take_seal]
    simp only [Option.bind_some, if_true]
    rw [str_bytes, if_pos rfl, hl, wrap_in (by omega) (by omega)]
    congr 1
    rw [beq_iff_eq]
    omega
end Go.Proofs.Ytcjifdgbammocaa.Pure
