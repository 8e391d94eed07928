-- by fakeprint.py
import Derived.Test.YtgbcfkcnoncgdaaSp0
import Derived.Test.YtgbcfkcnoncgdaaSp4
import Derived.Test.YtgbcfkcnoncgdaaSp6
import Derived.Test.YtgbcfkcnoncgdaaSp7
import Derived.Test.YtgbcfkcnoncgdaaSp8
import Derived.Test.YtgbcfkcnoncgdaaSp11
import Derived.Test.YtgbcfkcnoncgdaaSp15
namespace Go.Proofs.Ytgbcfkcnoncgdaa.Sp
open Go.Proofs.Ytgbcfkcnoncgdaa.Hand
open Go.RowKit Go.Proofs.YtgbcfkcnoncgdaaW.PrintWords Go.Proofs.YtgbcfkcnoncgdaaW.PrintLast Go.Proofs.YtgbcfkcnoncgdaaW.PrintMore
attribute [local go_sem] max2_int min2_int max_two min_two max_three min_three max_four min_four   -- for this text's walks alone
set_option linter.unusedVariables false
set_option linter.unusedSimpArgs false

/-! ### pageKinds0: function 6 -/
mutual
def pageKinds0.j0 : Nat → Bool → Int → List (S64) → List (S65) → ByteArray → Int → Int → List (S64) → List (S65) → ByteArray → Int → Option (Bool)
  | 0, _, _, _, _, _, _, _, _, _, _, _ => none
  | k + 1, x32, x328000, x328001, x328002, x328003, x328004, x329000, x329001, x329002, x329003, x329004 => if x32 = true then ((sapwoodlaw04_awake.f k).bind fun t334 => (some t334)) else (pageKinds0.l0 k 1 x328000 x328001 x328002 x328003 x328004 x329000 x329001 x329002 x329003 x329004)
def pageKinds0.l0 : Nat → Int → Int → List (S64) → List (S65) → ByteArray → Int → Int → List (S64) → List (S65) → ByteArray → Int → Option (Bool)
  | 0, _, _, _, _, _, _, _, _, _, _, _ => none
  | k + 1, x5, x328000, x328001, x328002, x328003, x328004, x329000, x329001, x329002, x329003, x329004 => if x5 ≤ 3 then ((sapwoodlaw04_made.f k x328000 x328001 x328002 x328003 x328004).bind fun bt335 => (if x5 = x328000 then (pageKinds0.l0 k (wrap64 (x5 + 1)) x328000 x328001 x328002 x328003 x328004 x329000 x329001 x329002 x329003 x329004) else ((page_Right.f k x5 bt335.2.1 bt335.2.2.1 bt335.2.2.2.1 bt335.2.2.2.2).bind fun t345 => (if t345 = true then (if x328000 = 1 then (pageKinds0.l0 k (wrap64 (x5 + 1)) x328000 x328001 x328002 x328003 x328004 x329000 x329001 x329002 x329003 x329004) else (some false)) else (pageKinds0.l0 k (wrap64 (x5 + 1)) x328000 x328001 x328002 x328003 x328004 x329000 x329001 x329002 x329003 x329004))))) else ((sapwoodlaw04_made.f k x328000 x328001 x328002 x328003 x328004).bind fun bt346 => ((page_Encode.f k bt346.1 bt346.2.1 bt346.2.2.1 bt346.2.2.2.1 bt346.2.2.2.2).bind fun bt355 => ((sapwoodlaw04_made.f k x329000 x329001 x329002 x329003 x329004).bind fun bt359 => ((page_Encode.f k bt359.1 bt359.2.1 bt359.2.2.1 bt359.2.2.2.1 bt359.2.2.2.2).bind fun bt368 => (if bt355.2 = 0 then (if bt368.2 = 0 then ((sapwoodref04_Same.f k x328000 x328001 x328002 x328003 x328004 x329000 x329001 x329002 x329003 x329004).bind fun t372 => (some (((strOfNums bt355.1).toList == (strOfNums bt368.1).toList) == t372))) else (some false)) else (some false))))))
end
def pageKinds0.f (k : Nat) (a0_0 : Int) (l0_1 : List (S64)) (l0_2 : List (S65)) (a0_3 : ByteArray) (a0_4 : Int) (a1_0 : Int) (l1_1 : List (S64)) (l1_2 : List (S65)) (a1_3 : ByteArray) (a1_4 : Int) : Option (Bool) := (sapwoodlaw04_awake.f k).bind fun t329 => (if t329 = true then ((sapwoodlaw04_few.f k a0_0 l0_1 l0_2 a0_3 a0_4).bind fun t330 => (if t330 = true then ((sapwoodlaw04_few.f k a1_0 l1_1 l1_2 a1_3 a1_4).bind fun t331 => (if t331 = true then ((sapwoodref04_Right.f k a0_0 l0_1 l0_2 a0_3 a0_4).bind fun t332 => (if t332 = true then ((sapwoodref04_Right.f k a1_0 l1_1 l1_2 a1_3 a1_4).bind fun t333 => (pageKinds0.j0 k (!t333) a0_0 l0_1 l0_2 a0_3 a0_4 a1_0 l1_1 l1_2 a1_3 a1_4)) else (pageKinds0.j0 k true a0_0 l0_1 l0_2 a0_3 a0_4 a1_0 l1_1 l1_2 a1_3 a1_4))) else (pageKinds0.j0 k true a0_0 l0_1 l0_2 a0_3 a0_4 a1_0 l1_1 l1_2 a1_3 a1_4))) else (pageKinds0.j0 k true a0_0 l0_1 l0_2 a0_3 a0_4 a1_0 l1_1 l1_2 a1_3 a1_4))) else (pageKinds0.j0 k true a0_0 l0_1 l0_2 a0_3 a0_4 a1_0 l1_1 l1_2 a1_3 a1_4))
theorem pageKinds0.mono_l : ∀ k, (∀ y0 y1 y2 y3 y4 y5 y6 y7 y8 y9 y10, LeO (pageKinds0.j0 k y0 y1 y2 y3 y4 y5 y6 y7 y8 y9 y10) (pageKinds0.j0 (k + 1) y0 y1 y2 y3 y4 y5 y6 y7 y8 y9 y10)) ∧ (∀ y0 y1 y2 y3 y4 y5 y6 y7 y8 y9 y10, LeO (pageKinds0.l0 k y0 y1 y2 y3 y4 y5 y6 y7 y8 y9 y10) (pageKinds0.l0 (k + 1) y0 y1 y2 y3 y4 y5 y6 y7 y8 y9 y10))
  | 0 => ⟨fun _ _ _ _ _ _ _ _ _ _ _ r h => by simp [pageKinds0.j0] at h, fun _ _ _ _ _ _ _ _ _ _ _ r h => by simp [pageKinds0.l0] at h⟩
  | k + 1 => by
    obtain ⟨ih0, ih1⟩ := pageKinds0.mono_l k
    refine ⟨?_, ?_⟩
    · intro y0 y1 y2 y3 y4 y5 y6 y7 y8 y9 y10
      unfold pageKinds0.j0
      repeat' first
      | (with_reducible exact ih0 _ _ _ _ _ _ _ _ _ _ _)
      | (with_reducible exact ih1 _ _ _ _ _ _ _ _ _ _ _)
      | (with_reducible exact page_Encode.mono _ _ _ _ _ _)
      | (with_reducible exact page_Right.mono _ _ _ _ _ _)
      | (with_reducible exact sapwoodlaw04_awake.mono _)
      | (with_reducible exact sapwoodlaw04_few.mono _ _ _ _ _ _)
      | (with_reducible exact sapwoodlaw04_made.mono _ _ _ _ _ _)
      | (with_reducible exact sapwoodref04_Right.mono _ _ _ _ _ _)
      | (with_reducible exact sapwoodref04_Same.mono _ _ _ _ _ _ _ _ _ _ _)
      | (with_reducible exact LeO.refl _)
      | (with_reducible exact LeO.none _)
      | (with_reducible refine LeO.ite ?_ ?_)
      | (with_reducible refine LeO.bind ?_ (fun _ => ?_))
      | exact ih0 _ _ _ _ _ _ _ _ _ _ _
      | exact ih1 _ _ _ _ _ _ _ _ _ _ _
      | exact page_Encode.mono _ _ _ _ _ _
      | exact page_Right.mono _ _ _ _ _ _
      | exact sapwoodlaw04_awake.mono _
      | exact sapwoodlaw04_few.mono _ _ _ _ _ _
      | exact sapwoodlaw04_made.mono _ _ _ _ _ _
      | exact sapwoodref04_Right.mono _ _ _ _ _ _
      | exact sapwoodref04_Same.mono _ _ _ _ _ _ _ _ _ _ _
      | exact LeO.none _
      | refine LeO.ite ?_ ?_
      | refine LeO.bind ?_ (fun _ => ?_)
    · intro y0 y1 y2 y3 y4 y5 y6 y7 y8 y9 y10
      unfold pageKinds0.l0
      repeat' first
      | (with_reducible exact ih0 _ _ _ _ _ _ _ _ _ _ _)
      | (with_reducible exact ih1 _ _ _ _ _ _ _ _ _ _ _)
      | (with_reducible exact page_Encode.mono _ _ _ _ _ _)
      | (with_reducible exact page_Right.mono _ _ _ _ _ _)
      | (with_reducible exact sapwoodlaw04_awake.mono _)
      | (with_reducible exact sapwoodlaw04_few.mono _ _ _ _ _ _)
      | (with_reducible exact sapwoodlaw04_made.mono _ _ _ _ _ _)
      | (with_reducible exact sapwoodref04_Right.mono _ _ _ _ _ _)
      | (with_reducible exact sapwoodref04_Same.mono _ _ _ _ _ _ _ _ _ _ _)
      | (with_reducible exact LeO.refl _)
      | (with_reducible exact LeO.none _)
      | (with_reducible refine LeO.ite ?_ ?_)
      | (with_reducible refine LeO.bind ?_ (fun _ => ?_))
      | exact ih0 _ _ _ _ _ _ _ _ _ _ _
      | exact ih1 _ _ _ _ _ _ _ _ _ _ _
      | exact page_Encode.mono _ _ _ _ _ _
      | exact page_Right.mono _ _ _ _ _ _
      | exact sapwoodlaw04_awake.mono _
      | exact sapwoodlaw04_few.mono _ _ _ _ _ _
      | exact sapwoodlaw04_made.mono _ _ _ _ _ _
      | exact sapwoodref04_Right.mono _ _ _ _ _ _
      | exact sapwoodref04_Same.mono _ _ _ _ _ _ _ _ _ _ _
      | exact LeO.none _
      | refine LeO.ite ?_ ?_
      | refine LeO.bind ?_ (fun _ => ?_)
theorem pageKinds0.mono : ∀ a0 a1 a2 a3 a4 a5 a6 a7 a8 a9 k, LeO (pageKinds0.f k a0 a1 a2 a3 a4 a5 a6 a7 a8 a9) (pageKinds0.f (k + 1) a0 a1 a2 a3 a4 a5 a6 a7 a8 a9) := by
  intro a0 a1 a2 a3 a4 a5 a6 a7 a8 a9 k
  obtain ⟨ih0, ih1⟩ := pageKinds0.mono_l k
  unfold pageKinds0.f
  repeat' first
      | (with_reducible exact ih0 _ _ _ _ _ _ _ _ _ _ _)
      | (with_reducible exact ih1 _ _ _ _ _ _ _ _ _ _ _)
      | (with_reducible exact page_Encode.mono _ _ _ _ _ _)
      | (with_reducible exact page_Right.mono _ _ _ _ _ _)
      | (with_reducible exact sapwoodlaw04_awake.mono _)
      | (with_reducible exact sapwoodlaw04_few.mono _ _ _ _ _ _)
      | (with_reducible exact sapwoodlaw04_made.mono _ _ _ _ _ _)
      | (with_reducible exact sapwoodref04_Right.mono _ _ _ _ _ _)
      | (with_reducible exact sapwoodref04_Same.mono _ _ _ _ _ _ _ _ _ _ _)
      | (with_reducible exact LeO.refl _)
      | (with_reducible exact LeO.none _)
      | (with_reducible refine LeO.ite ?_ ?_)
      | (with_reducible refine LeO.bind ?_ (fun _ => ?_))
      | exact ih0 _ _ _ _ _ _ _ _ _ _ _
      | exact ih1 _ _ _ _ _ _ _ _ _ _ _
      | exact page_Encode.mono _ _ _ _ _ _
      | exact page_Right.mono _ _ _ _ _ _
      | exact sapwoodlaw04_awake.mono _
      | exact sapwoodlaw04_few.mono _ _ _ _ _ _
      | exact sapwoodlaw04_made.mono _ _ _ _ _ _
      | exact sapwoodref04_Right.mono _ _ _ _ _ _
      | exact sapwoodref04_Same.mono _ _ _ _ _ _ _ _ _ _ _
      | exact LeO.none _
      | refine LeO.ite ?_ ?_
      | refine LeO.bind ?_ (fun _ => ?_)
def pageKinds0.T12 : Bool × List (List Nat × List Nat) := (true, [([], []), ([0], [0]), ([1], [1]), ([2], [2]), ([3, 2], [2, 3]), ([2, 4], [2, 4]), ([5, 2], [5]), ([6], [6]), ([7, 6], [6, 7]), ([6], [6]), ([9, 6], [6, 9]), ([8, 10, 6], [6, 8, 10]), ([6], [6]), ([6], [6]), ([12, 13, 6, 6], [6, 12, 13]), ([11, 14, 6], [6, 11, 14]), ([6, 15], [6, 15]), ([16, 14, 0, 1, 2, 3, 4, 5, 6, 7, 8, 9, 10, 11, 12, 13, 14, 15, 16], [16])])
def pageKinds0.B12 : List Nat := [0, 1, 3, 7, 15, 31, 63, 127, 255, 127, 639, 2047, 127, 127, 12415, 32767, 65535, 131071]
theorem pageKinds0.tab12 : rtab .any (opsOf Try.f6 12) = pageKinds0.T12 := by kernel_rfl
theorem pageKinds0.bits12 : waitsOk pageKinds0.T12.2 pageKinds0.B12 = true := by kernel_rfl
end Go.Proofs.Ytgbcfkcnoncgdaa.Sp
