/- What a program that does nothing answers wrongly: here it is answered rightly. -/
import Derived.Test.YtcjifdgbammocaaSumHand
import Derived.Lib.SlBytesConst
namespace Go.Proofs.Ytcjifdgbammocaa.Hand
open Go.RowKit Go.Proofs.YtcjifdgbammocaaW.PrintWords Go.Proofs.YtcjifdgbammocaaW.PrintLast Go.Proofs.YtcjifdgbammocaaW.PrintMore
set_option linter.unusedVariables false

theorem crc_digits : Crc.crc [49, 50, 51, 52, 53, 54, 55, 56, 57] = 4236843288 := by decide +kernel
def sapwoodlaw02_awake.f : Option Bool := some true
def digits : List Int := [49, 50, 51, 52, 53, 54, 55, 56, 57]
theorem digits_read (w : World) (e : TypeId) (fr : Nat × Nat) : Kd.C (Kd.int .u8) (w.alloc (.cells #[.int .u8 49, .int .u8 50, .int .u8 51, .int .u8 52, .int .u8 53, .int .u8 54, .int .u8 55, .int .u8 56, .int .u8 57] e fr)) (some ⟨w.heap.size, 0, none⟩) digits.length digits := by
  refine Kd.C_of_reads (d := (0 : Int)) (h1 := fun _ => rfl) ⟨rfl, by decide, fun _ => ⟨_, rfl, fun j hj => ?_⟩⟩
  rw [add_plain, World.cell?_alloc_mark]
  match j, hj with
  | 0, _ => rfl
  | 1, _ => rfl
  | 2, _ => rfl
  | 3, _ => rfl
  | 4, _ => rfl
  | 5, _ => rfl
  | 6, _ => rfl
  | 7, _ => rfl
  | 8, _ => rfl
  | n + 9, h => exact absurd h (by simp [digits])
set_option maxHeartbeats 1000000 in
theorem awake_true (w : World) : Calls Try.prog 9 #[] w fun e w' => e = .returned (.bool true) ∧ Below w.heap.size w w' := by
  have kc := fun (w : World) (C : Array Value) (n c : Nat) => Lib.run_convert_bytes_const (P := Try.prog) w 23 5 C n c Try.underlying23 Try.underlying5
  have HC := Aside0.mk crc_digits
  go_enter Try.func9, Try.ntmps9
  go_wp2_with (go_at_call 10; refine (Of_any _ _ digits _ (digits_read _ _ _) (by decide) (by decide)).mono ?_; rintro e w1 ⟨rfl, hb⟩; rw [show Crc.crc digits = 4236843288 from HC.out]; have HB : Aside0 (Below w.heap.size w w1) := ⟨below_step ((Below.refl _ _).alloc (Nat.le_refl _) _) hb⟩; clear hb)
  go_ret
  exact ⟨rfl, HB.out⟩
theorem sapwoodlaw02_awake.calls (r : Bool) (w : World) (h : sapwoodlaw02_awake.f = some r) :
    Calls Try.prog 9 #[] w fun e w' => e = .returned (.bool r) ∧ Below w.heap.size w w' := by
  obtain rfl := Option.some.inj h
  exact awake_true w
end Go.Proofs.Ytcjifdgbammocaa.Hand
