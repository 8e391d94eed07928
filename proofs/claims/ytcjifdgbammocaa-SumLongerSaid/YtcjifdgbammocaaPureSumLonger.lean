/- What is sealed twice is opened twice, and what is opened is sealed as it was: for every string that the law looks at. -/
import Derived.Test.YtcjifdgbammocaaSumPure
import Derived.Test.YtcjifdgbammocaaSp4
namespace Go.Proofs.Ytcjifdgbammocaa.Pure
open Go.Proofs.Ytcjifdgbammocaa.Hand
open Go.RowKit Go.Proofs.Ytcjifdgbammocaa.Sp Go.Proofs.YtcjifdgbammocaaW.PrintWords Go.Proofs.YtcjifdgbammocaaW.PrintLast

theorem SumLonger : sapwoodlaw02_SumLonger.Pure := by
  intro s hs
  refine ⟨s.size + 20, ?_⟩
  unfold sapwoodlaw02_SumLonger.f sapwoodlaw02_awake.f
  simp only [Option.bind_some, if_true]
  simp only [sapwoodlaw02_SumLonger.j0]
  by_cases h5 : (s.size : Int) > 5000
  · rw [if_pos (by simpa using h5)]
    rfl
  · have hb := bytesOf_all s
    have hl0 : (bytesOf s).length = s.size := bytesOf_length s
    have hl1 : (sealL (bytesOf s)).length = s.size + 4 := by rw [sealL_length, hl0]
    have hl2 : (sealL (sealL (bytesOf s))).length = s.size + 8 := by rw [sealL_length, hl1]
    rw [if_neg (by simpa using h5), if_pos (by omega), seal_f hb (by omega)]
    simp only [Option.bind_some]
    rw [seal_f (sealL_bytes hb) (by omega)]
    simp only [Option.bind_some]
    rw [open_f (sealL_bytes (sealL_bytes hb)) (by omega) _ (by omega), if_pos (opened_seal _), take_seal]
    simp only [Option.bind_some, if_true]
    simp only [sapwoodlaw02_SumLonger.j1]
    rw [if_neg (by simp), open_f (sealL_bytes hb) (by omega) _ (by omega), if_pos (opened_seal _), take_seal]
    simp only [Option.bind_some, if_true]
    rw [str_bytes, if_pos rfl, seal_f hb (by omega)]
    simp
end Go.Proofs.Ytcjifdgbammocaa.Pure
