/- A call of a reader that the statements make ('does'), at a nil reader and at another. -/
import Derived.Test.YtnidooobefoahaaAwakeFix
namespace Go.Proofs.Ytnidooobefoahaa.Hand
open Go.RowKit Go.Proofs.Ytnidooobefoahaa.Sp Go.Proofs.Ytnidooobefoahaa.Pure Go.Proofs.YtnidooobefoahaaW.PrintWords Go.Proofs.YtnidooobefoahaaW.PrintLast Go.Proofs.YtnidooobefoahaaW.PrintMore
set_option linter.unusedVariables false
set_option linter.unusedSimpArgs false

theorem does_nil (k n : Int) (w : World) : Calls Try.prog 27 #[.pointer none, .agg #[.int .i64 k, .int .i64 n]] w fun e w' => e = .returned (.bool false) ∧ Below w.heap.size w w' := by
  have HB := Aside0.mk (below_alloc (Below.refl w.heap.size w) (.cells #[.int .i64 k, .int .i64 n] 46))
  go_enter Try.func27, Try.ntmps27
  go_wp2_with (first | (go_at_call 17; refine (Take8_nil _).mono ?_; rintro e w1 ⟨rfl, rfl⟩) | (go_at_call 19; refine (Take16_nil _).mono ?_; rintro e w1 ⟨rfl, rfl⟩) | (go_at_call 20; refine (Take32_nil _).mono ?_; rintro e w1 ⟨rfl, rfl⟩) | (go_at_call 21; refine (Text_nil _ _).mono ?_; rintro e w1 ⟨rfl, rfl⟩) | (go_at_call 25; refine (Zero_nil _).mono ?_; rintro e w1 ⟨rfl, rfl⟩))
  all_goals
    go_ret
    exact ⟨rfl, HB.out⟩
/-- What a call answers, and where the reader stands behind it. -/
def opStep (l : List Int) (s : RS) (k n : Int) : Bool × RS :=
  if k = 1 then ((rNum l s 1).1 != 0, (rNum l s 1).2) else if k = 2 then ((rNum l s 2).1 != 0, (rNum l s 2).2) else if k = 3 then ((rNum l s 4).1 != 0, (rNum l s 4).2)
  else if k = 4 then (!(strOfNums (rText l s n).1).toList.isEmpty, (rText l s n).2) else if k = 5 then (false, rZero l s) else (false, s)
def DoesOut (w : World) (bs g : Nat) (l : List Int) (r : Bool × RS) (x : Ending) (w' : World) : Prop := x = .returned (.bool r.1) ∧ Only w w' g ∧ Rd w' bs g l r.2
set_option maxHeartbeats 1000000 in
theorem does_rd {w : World} {bs g : Nat} {l : List Int} {s : RS} (k n : Int) (h : Rd w bs g l s) :
    Calls Try.prog 27 #[.pointer (some ⟨g, 0, none⟩), .agg #[.int .i64 k, .int .i64 n]] w (DoesOut w bs g l (opStep l s k n)) := by
  have HB : Aside0 (Only w (w.alloc (.cells #[.int .i64 k, .int .i64 n] 46)) g) := ⟨Only.of_below (below_alloc (Below.refl w.heap.size w) _)⟩
  have HR : Aside0 (Rd (w.alloc (.cells #[.int .i64 k, .int .i64 n] 46)) bs g l s) := ⟨h.below (below_alloc (Below.refl w.heap.size w) _)⟩
  clear h
  go_enter Try.func27, Try.ntmps27
  go_wp2_with (first | (go_at_call 17; refine (Take8_any HR.out).mono ?_; rintro e w1 ⟨rfl, ho, hr⟩; have HO := Aside0.mk ho; have HR1 := Aside0.mk hr; clear ho hr) | (go_at_call 19; refine (Take16_any HR.out).mono ?_; rintro e w1 ⟨rfl, ho, hr⟩; have HO := Aside0.mk ho; have HR1 := Aside0.mk hr; clear ho hr) | (go_at_call 20; refine (Take32_any HR.out).mono ?_; rintro e w1 ⟨rfl, ho, hr⟩; have HO := Aside0.mk ho; have HR1 := Aside0.mk hr; clear ho hr) | (go_at_call 21; refine (Text_any HR.out _).mono ?_; rintro e w1 ⟨rfl, ho, hr⟩; have HO := Aside0.mk ho; have HR1 := Aside0.mk hr; clear ho hr) | (go_at_call 25; refine (Zero_any HR.out).mono ?_; rintro e w1 ⟨rfl, ho, hr⟩; have HO := Aside0.mk ho; have HR1 := Aside0.mk hr; clear ho hr))
  · go_ret
    have hk : k = 1 := eq_of_beq (by assumption)
    unfold opStep; rw [if_pos hk]
    exact ⟨rfl, HB.out.trans HO.out, HR1.out⟩
  · go_ret
    have h1 : k ≠ 1 := by simpa using (show (k == 1) = false by assumption)
    have hk : k = 2 := eq_of_beq (by assumption)
    unfold opStep; rw [if_neg h1, if_pos hk]
    exact ⟨rfl, HB.out.trans HO.out, HR1.out⟩
  · go_ret
    have h1 : k ≠ 1 := by simpa using (show (k == 1) = false by assumption)
    have h2 : k ≠ 2 := by simpa using (show (k == 2) = false by assumption)
    have hk : k = 3 := eq_of_beq (by assumption)
    unfold opStep; rw [if_neg h1, if_neg h2, if_pos hk]
    exact ⟨rfl, HB.out.trans HO.out, HR1.out⟩
  · go_ret
    have h1 : k ≠ 1 := by simpa using (show (k == 1) = false by assumption)
    have h2 : k ≠ 2 := by simpa using (show (k == 2) = false by assumption)
    have h3 : k ≠ 3 := by simpa using (show (k == 3) = false by assumption)
    have hk : k = 4 := eq_of_beq (by assumption)
    unfold opStep; rw [if_neg h1, if_neg h2, if_neg h3, if_pos hk]
    exact ⟨rfl, HB.out.trans HO.out, HR1.out⟩
  · go_ret
    have h1 : k ≠ 1 := by simpa using (show (k == 1) = false by assumption)
    have h2 : k ≠ 2 := by simpa using (show (k == 2) = false by assumption)
    have h3 : k ≠ 3 := by simpa using (show (k == 3) = false by assumption)
    have h4 : k ≠ 4 := by simpa using (show (k == 4) = false by assumption)
    have hk : k = 5 := eq_of_beq (by assumption)
    unfold opStep; rw [if_neg h1, if_neg h2, if_neg h3, if_neg h4, if_pos hk]
    exact ⟨rfl, HB.out.trans HO.out, HR1.out⟩
  · go_ret
    have h1 : k ≠ 1 := by simpa using (show (k == 1) = false by assumption)
    have h2 : k ≠ 2 := by simpa using (show (k == 2) = false by assumption)
    have h3 : k ≠ 3 := by simpa using (show (k == 3) = false by assumption)
    have h4 : k ≠ 4 := by simpa using (show (k == 4) = false by assumption)
    have h5 : k ≠ 5 := by simpa using (show (k == 5) = false by assumption)
    unfold opStep; rw [if_neg h1, if_neg h2, if_neg h3, if_neg h4, if_neg h5]
    exact ⟨rfl, HB.out, HR.out⟩
end Go.Proofs.Ytnidooobefoahaa.Hand
