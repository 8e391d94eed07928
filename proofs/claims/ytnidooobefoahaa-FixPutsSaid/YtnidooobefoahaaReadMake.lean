/- A reader that is made of bytes, and the nil reader. -/
import Derived.Test.YtnidooobefoahaaReadZero
namespace Go.Proofs.Ytnidooobefoahaa.Hand
open Go.RowKit Go.Proofs.YtnidooobefoahaaW.PrintWords Go.Proofs.YtnidooobefoahaaW.PrintLast Go.Proofs.YtnidooobefoahaaW.PrintMore
set_option linter.unusedVariables false
set_option linter.unusedSimpArgs false

def ReadOut (w : World) (l : List Int) (x : Ending) (w' : World) : Prop := ∃ g, x = .returned (.pointer (some ⟨g, 0, none⟩)) ∧ Below w.heap.size w w' ∧ Rd w' w.heap.size g l ⟨0, 0⟩
theorem Read_any {w : World} {A0 : Option Addr} {c0 : Nat} {l : List Int} (hr0 : (Kd.int .u8).C w A0 l.length l) (hc0 : l.length ≤ c0) (hl : l.length < 140737488355328) (hb : isBy l) :
    Calls Try.prog 16 #[.slice A0 l.length c0] w (ReadOut w l) := by
  have HC := Aside0.mk (slices_Clone_byte_byte.calls A0 c0 l l w hr0 hc0 (by unfold slices_Clone_byte_byte.f; rw [if_pos hl]))
  have HB := Aside0.mk hb
  have HL := Aside0.mk hl
  clear hr0 hc0 hb hl
  go_enter Try.func16, Try.ntmps16
  go_wp2_with (go_at_call 29; refine HC.out.mono ?_; rintro e w1 ⟨v, rfl, hR, hbel⟩; have HR := Aside0.mk hR; have HW := Aside0.mk hbel; obtain ⟨A, c, rfl, hle, hC⟩ := Kd.R_reads hR; have HCC := Aside0.mk hC; have hsz := hbel.size; clear hR hbel hC)
  go_ret
  have hlt : w1.heap.size < (w1.alloc (.cells #[.slice A l.length c, .int .i64 0, .int .i64 0] 54)).heap.size := by simp
  refine ⟨w1.heap.size, rfl, below_alloc HW.out _, ⟨⟨A, c, heap_alloc_new _ _, hle, Kd.C_alloc HCC.out _, ?_⟩, Nat.zero_le _, Nat.le_of_lt HL.out, HB.out, hsz⟩⟩
  rintro ad rfl hp
  obtain ⟨inner, ho⟩ := Kd.R_own HR.out
  exact ⟨own_base ho ad.block rfl, own_lt ho ad.block rfl⟩

/-! ### the nil reader -/
theorem Err_nil (w : World) : Calls Try.prog 22 #[.pointer none] w fun x w' => x = .returned (.int .i64 2) ∧ w' = w := by
  go_enter Try.func22, Try.ntmps22
  go_wp2
  go_ret
  exact ⟨rfl, rfl⟩
theorem At_nil (w : World) : Calls Try.prog 23 #[.pointer none] w fun x w' => x = .returned (.int .i64 0) ∧ w' = w := by
  go_enter Try.func23, Try.ntmps23
  go_wp2
  go_ret
  exact ⟨rfl, rfl⟩
theorem fails_nil (x : Int) (w : World) : Calls Try.prog 31 #[.pointer none, .int .i64 x] w fun y w' => y = .returned (.tuple #[]) ∧ w' = w := by
  go_enter Try.func31, Try.ntmps31
  go_wp2_with (go_at_call 22; refine (Err_nil _).mono ?_; rintro e w1 ⟨rfl, rfl⟩)
  go_end0
  exact ⟨rfl, rfl⟩
theorem bytes_nil (m : Int) (w : World) : Calls Try.prog 32 #[.pointer none, .int .i64 m] w fun y w' => y = .returned (.slice none 0 0) ∧ w' = w := by
  go_enter Try.func32, Try.ntmps32
  go_wp2_with (go_at_call 22; refine (Err_nil _).mono ?_; rintro e w1 ⟨rfl, rfl⟩)
  go_ret
  exact ⟨rfl, rfl⟩
theorem number_nil (m : Int) (w : World) : Calls Try.prog 30 #[.pointer none, .int .i64 m] w fun y w' => y = .returned (.int .i64 0) ∧ w' = w := by
  go_enter Try.func30, Try.ntmps30
  go_wp2_with (go_at_call 32; refine (bytes_nil _ _).mono ?_; rintro e w1 ⟨rfl, rfl⟩)
  go_loop [5, 12] (fun n i => n = .int .i64 0 ∧ i = .int .i64 0) (fun _ i => 0)
  case atStart => exact ⟨rfl, rfl⟩
  case round =>
    obtain ⟨rfl, rfl⟩ := hrel
    go_wp2
    go_ret
    exact ⟨rfl, rfl⟩
theorem Take8_nil (w : World) : Calls Try.prog 17 #[.pointer none] w fun y w' => y = .returned (.int .i64 0) ∧ w' = w := by
  go_enter Try.func17, Try.ntmps17
  go_wp2_with (go_at_call 30; refine (number_nil _ _).mono ?_; rintro e w1 ⟨rfl, rfl⟩)
  go_ret
  exact ⟨rfl, rfl⟩
theorem Take16_nil (w : World) : Calls Try.prog 19 #[.pointer none] w fun y w' => y = .returned (.int .i64 0) ∧ w' = w := by
  go_enter Try.func19, Try.ntmps19
  go_wp2_with (go_at_call 30; refine (number_nil _ _).mono ?_; rintro e w1 ⟨rfl, rfl⟩)
  go_ret
  exact ⟨rfl, rfl⟩
theorem Take32_nil (w : World) : Calls Try.prog 20 #[.pointer none] w fun y w' => y = .returned (.int .i64 0) ∧ w' = w := by
  go_enter Try.func20, Try.ntmps20
  go_wp2_with (go_at_call 30; refine (number_nil _ _).mono ?_; rintro e w1 ⟨rfl, rfl⟩)
  go_ret
  exact ⟨rfl, rfl⟩
theorem Text_nil (most : Int) (w : World) : Calls Try.prog 21 #[.pointer none, .int .i64 most] w fun y w' => y = .returned (.string ⟨#[]⟩) ∧ w' = w := by
  have hs : ∀ W : World, (convert 23 9 (.slice none 0 0)).run Try.prog W = .ok (.string ⟨#[]⟩) W := fun W => run_convert_bytes_nil W 23 5 Try.underlying23 Try.underlying5 0 0 9 Try.underlying9
  go_enter Try.func21, Try.ntmps21
  go_wp2_with (first | (go_at_call 19; refine (Take16_nil _).mono ?_; rintro e w1 ⟨rfl, rfl⟩) | (go_at_call 22; refine (Err_nil _).mono ?_; rintro e w1 ⟨rfl, rfl⟩) | (go_at_call 32; refine (bytes_nil _ _).mono ?_; rintro e w1 ⟨rfl, rfl⟩))
  go_ret
  exact ⟨rfl, rfl⟩
theorem Zero_nil (w : World) : Calls Try.prog 25 #[.pointer none] w fun y w' => y = .returned (.tuple #[]) ∧ w' = w := by
  go_enter Try.func25, Try.ntmps25
  go_wp2_with (go_at_call 22; refine (Err_nil _).mono ?_; rintro e w1 ⟨rfl, rfl⟩)
  exact bodyPost_ret (results_none rfl _ _ _) rfl ⟨rfl, rfl⟩
end Go.Proofs.Ytnidooobefoahaa.Hand
