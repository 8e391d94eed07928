/- The walk of FixNil. -/
import Derived.Test.YtnidooobefoahaaDoes
namespace Go.Proofs.Ytnidooobefoahaa.Hand
open Go.RowKit Go.Proofs.Ytnidooobefoahaa.Sp Go.Proofs.Ytnidooobefoahaa.Pure Go.Proofs.YtnidooobefoahaaW.PrintWords Go.Proofs.YtnidooobefoahaaW.PrintLast Go.Proofs.YtnidooobefoahaaW.PrintMore
set_option linter.unusedVariables false
set_option linter.unusedSimpArgs false

theorem fixNil_walk (k n : Int) (w : World) : Calls Try.prog 9 #[.agg #[.int .i64 k, .int .i64 n]] w fun e w' => e = .returned (.bool true) ∧ Below w.heap.size w w' := by
  go_enter Try.func9, Try.ntmps9
  go_wp2_with (first | (go_at_call 10; refine (awake_true _).mono ?_; rintro e w1 ⟨rfl, hb⟩; have hblk := blk_below (blk_new w _) hb; have hc0 := blk_cell hblk 0; have hc1 := blk_cell hblk 1; have HB := Aside0.mk (below_step (below_alloc (Below.refl w.heap.size w) _) hb); clear hb hblk; simp at hc0 hc1) | (go_at_call 27; refine (does_nil k n _).mono ?_; rintro e w2 ⟨rfl, hb2⟩; have HB2 := Aside0.mk (below_step HB.out hb2); clear hb2) | (go_at_call 22; refine (Err_nil _).mono ?_; rintro e w3 ⟨rfl, rfl⟩) | (go_at_call 23; refine (At_nil _).mono ?_; rintro e w4 ⟨rfl, rfl⟩))
  go_ret
  exact ⟨rfl, HB2.out⟩
end Go.Proofs.Ytnidooobefoahaa.Hand
