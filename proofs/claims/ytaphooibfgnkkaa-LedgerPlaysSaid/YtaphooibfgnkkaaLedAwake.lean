/- The nil ledger; and what a program that does nothing answers wrongly is answered rightly. -/
import Derived.Test.YtaphooibfgnkkaaLedCommit
namespace Go.Proofs.Ytaphooibfgnkkaa.Hand
open Go.RowKit Go.Proofs.YtaphooibfgnkkaaW.PrintWords Go.Proofs.YtaphooibfgnkkaaW.PrintLast Go.Proofs.YtaphooibfgnkkaaW.PrintMore
set_option linter.unusedVariables false
set_option linter.unusedSimpArgs false
theorem commit_nil (v : Value) (w : World) : Calls Try.prog 10 #[.pointer none, v] w fun e w' => e = .returned (.tuple #[]) ∧ w' = w := by
  go_enter Try.func10, Try.ntmps10
  go_wp2
  go_end0
  exact ⟨rfl, rfl⟩
theorem reset_nil (v u : Value) (w : World) : Calls Try.prog 13 #[.pointer none, v, u] w fun e w' => e = .returned (.tuple #[]) ∧ w' = w := by
  go_enter Try.func13, Try.ntmps13
  go_wp2
  go_end0
  exact ⟨rfl, rfl⟩
theorem take_nil (w : World) : Calls Try.prog 14 #[.pointer none] w fun e w' => e = .returned (.tuple #[.int .i64 0, .int .i64 8]) ∧ w' = w := by
  go_enter Try.func14, Try.ntmps14
  go_wp2
  go_loop [4] (fun i => i = .int .i64 2) (fun i => 0)
  case atStart => rfl
  case round =>
    obtain rfl := hrel
    go_wp2_with (go_at_call 24; refine (size_nil _).mono ?_; rintro e w1 ⟨rfl, rfl⟩)
    go_ret2
    exact ⟨rfl, rfl⟩
theorem free_4 : freeN (usedB none_ none_ none_) 4 = 2 := by decide
theorem take_4 : takeF (usedB none_ none_ none_) 4 = some 2 := by decide
theorem use_2 : useI 4 none_ none_ (tm none_ (some 2)) 2 = true := by decide
theorem use_3 : useI 4 none_ none_ (tm none_ (some 2)) 3 = false := by decide
theorem awake_true (w : World) : Calls Try.prog 8 #[] w fun e w' => e = .returned (.bool true) ∧ Below w.heap.size w w' := by
  have HN := Aside0.mk (new_any 4 w 4 (Or.inr (Or.inr ⟨rfl, by omega⟩)))
  go_enter Try.func8, Try.ntmps8
  go_wp2_with (first | (go_at_call 9; refine HN.out.mono ?_; rintro e w1 ⟨rfl, hb, hl⟩; have HB := Aside0.mk hb; have HL := Aside0.mk hl; clear hb hl) | (go_at_call 11; refine (free_any HL.out).mono ?_; rw [free_4]; rintro e w2 ⟨rfl, rfl⟩) | (go_at_call 14; refine (take_any HL.out).mono ?_; unfold TakeOut; rw [take_4]; rintro e w3 ⟨rfl, ho, hl⟩; have HO := Aside0.mk ho; have HL2 := Aside0.mk hl; clear ho hl) | (go_at_call 12; refine (use_any HL2.out _).mono ?_; (first | rw [use_2] | rw [use_3]); rintro e w4 ⟨rfl, rfl⟩))
  go_ret
  exact ⟨rfl, HO.out.below HB.out (Nat.le_refl _) HB.out.size⟩
end Go.Proofs.Ytaphooibfgnkkaa.Hand
