/- Any bytes have the check that the document says, and are sealed and opened, or not, as it says: for every string that the law looks at. -/
import Derived.Test.YtcjifdgbammocaaSumRef
import Derived.Test.YtcjifdgbammocaaSp2
namespace Go.Proofs.Ytcjifdgbammocaa.Pure
open Go.Proofs.Ytcjifdgbammocaa.Hand
open Go.RowKit Go.Proofs.Ytcjifdgbammocaa.Sp Go.Proofs.YtcjifdgbammocaaW.PrintWords Go.Proofs.YtcjifdgbammocaaW.PrintLast
theorem sumChecks_j0 (s : ByteArray) (k : Nat) (h5 : ¬ (s.size : Int) > 5000) (r1 r2) (t176 t175 t180 t183) (h1 : sum_Open.f k (bytesOf s) = some r1) (h2 : sapwoodref02_Open.f k s = some r2) (h3 : sum_Of.f (bytesOf s) = some t175)
  (h4 : sapwoodref02_Of.f k s = some t176) (h6 : sum_Seal.f (bytesOf s) = some t180) (h7 : sapwoodref02_Seal.f k s = some t183) : sapwoodlaw02_SumChecks.j0 (k + 1) s false =
   if (wrap64 (t175)) = t176 then (if (strOfNums t180).toList = t183.toList then (if (strOfNums r1.1).toList = r2.1.toList then (some (r1.2 == r2.2)) else (some false)) else (some false)) else (some false) := by
  simp only [sapwoodlaw02_SumChecks.j0]
  rw [if_neg (by simp), if_pos (by omega), h1, h2, h3, h4, h6, h7]
  simp only [Option.bind_some]
theorem sumChecks_f (s : ByteArray) (k : Nat) : sapwoodlaw02_SumChecks.f k s = sapwoodlaw02_SumChecks.j0 k s (decide ((s.size : Int) > 5000)) := by
  unfold sapwoodlaw02_SumChecks.f sapwoodlaw02_awake.f
  simp only [Option.bind_some, if_true]
theorem sumChecks_fine (s : ByteArray) (h5 : ¬ (s.size : Int) > 5000) : sapwoodlaw02_SumChecks.j0 (10 * s.size + 19 + 1) s false = some true := by
  have hb := bytesOf_all s
  have hl0 : (bytesOf s).length = s.size := bytesOf_length s
  have hr := crc_range (bytesOf s)
  have ho : sum_Of.f (bytesOf s) = some (Crc.crc (bytesOf s)) := by unfold sum_Of.f; rw [if_pos hb]
  have ho1 := open_f hb (by omega) (10 * s.size + 19) (by omega)
  have ho2 := refOpen_f s (by omega) (10 * s.size + 19) (by omega)
  have hr1 := refOf_f s (by omega) (10 * s.size + 19) (by omega)
  have hs1 := seal_f hb (by omega)
  have hs2 := refSeal_f s (by omega) (10 * s.size + 19) (by omega)
  rw [sumChecks_j0 s _ h5 _ _ _ _ _ _ ho1 ho2 ho hr1 hs1 hs2]
  have hw : wrap64 (Crc.crc (bytesOf s)) = Crc.crc (bytesOf s) := wrap_in (by omega) (by omega)
  rw [hw, hl0, if_pos (Eq.refl _), if_pos (Eq.refl _)]
  generalize opened (bytesOf s) = o
  cases o with
  | true => simp
  | false => simp [strOfNums]
theorem SumChecks : sapwoodlaw02_SumChecks.Pure := by
  intro s hs
  refine ⟨10 * s.size + 19 + 1, ?_⟩
  rw [sumChecks_f]
  by_cases h5 : (s.size : Int) > 5000
  · rw [decide_eq_true h5]
    simp only [sapwoodlaw02_SumChecks.j0, if_true]
    rfl
  · rw [decide_eq_false h5]
    exact sumChecks_fine s h5
end Go.Proofs.Ytcjifdgbammocaa.Pure
