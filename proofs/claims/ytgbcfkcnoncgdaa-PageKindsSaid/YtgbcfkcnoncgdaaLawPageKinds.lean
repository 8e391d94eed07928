/- PageKinds is proved: for every two pages, a page that can be and is no leaf can't be of another kind, and two pages that can be have the same bytes just where they are the same. No condition. -/
import Derived.Test.YtgbcfkcnoncgdaaRows
import Derived.Test.YtgbcfkcnoncgdaaOpenPage
import Derived.Test.YtgbcfkcnoncgdaaSp17
import Derived.Test.YtgbcfkcnoncgdaaPurePageKinds
import Derived.WalkKit
import Derived.ProofKit
import Derived.OpenShut
import Derived.ShutString
import Derived.ChangeOld
import Derived.Below
import Derived.Carry
import Derived.SizedLaws
namespace Go.Proofs.Ytgbcfkcnoncgdaa.pageKinds
open Go.ChangeShapes Go.WideShapes Go.ChangeAt Go.RowKit
set_option linter.unusedVariables false
theorem own : ownKnob Try.prog.godebug = none := by kernel_rfl
theorem laidOut : laidOutB Try.prog = true := by kernel_rfl
set_option maxRecDepth 100000 in
theorem lifted (os : Os) (started : os.Started) (H : Type) (enc : TypeId × Value → H) :
    ReturnsInHanded {} Try.checked os 6 .any (Rows.pageKindsSpec.pre6 enc Try.prog Try.f6 Rows.pageKindsRow.domain false) (Rows.pageKindsSpec.post enc Try.prog Try.f6 false true false false) := by
  refine returnsInHanded_of_change_sized (C := Try.checked) own started (by kernel_rfl) Try.func6
    (ChangeSpec.witness6 (enc := enc) (C := Try.checked) false ⟨#[], #[.agg #[.int .i64 0, .slice none 0 0, .slice none 0 0, .string ByteArray.empty, .int .i64 0], .agg #[.int .i64 0, .slice none 0 0, .slice none 0 0, .string ByteArray.empty, .int .i64 0]], []⟩ 8 (by kernel_rfl) (by kernel_rfl) (by kernel_rfl) (by kernel_rfl)) ?_
  intro W base args ds gs before hval0 hW hcnd hsz0 _
  have hsz : (DataW.weightsEach Try.prog (Try.f6.params.toList ++ Rows.pageKindsSpec.plain.varTypes Try.prog) (ds ++ gs)).all (· ≤ reachBytes) = true := hsz0
  have hval : ∀ (j : Nat) t v, Try.f6.params[j]? = some t → args[j]? = some v → Value.okWide Try.prog W .any base t v := hval0
  have hW' := hW
  obtain ⟨p, q, hA0, hV, rfl, hfz, hnd⟩ := hW
  have hA : DataW.TrodAll enc Try.prog W 0 (fun _ => true) true Try.f6.params.toList args.toList ds p := hA0
  rw [Try.params6] at hA hval hsz
  obtain ⟨v0, vs0, d0, ds0, p0, q0, hargs, rfl, rfl, h0, r0⟩ := trodAll_cons hA
  obtain ⟨v1, vs1, d1, ds1, p1, q1, rfl, rfl, rfl, h1, r1⟩ := trodAll_cons r0
  obtain ⟨rfl, rfl, rfl⟩ := trodAll_nil r1
  obtain rfl : args = #[v0, v1] := by cases args; simp_all
  obtain ⟨rfl, rfl⟩ := trodVars_none hV
  have lt0 : ∀ x ∈ p0, x.block < W.heap.size := by obtain ⟨m, hm⟩ := h0; exact DataW.trod_lt m _ _ _ hm
  have lt1 : ∀ x ∈ p1, x.block < W.heap.size := by obtain ⟨m, hm⟩ := h1; exact DataW.trod_lt m _ _ _ hm
  have k0 := h0
  have k1 := h1
  obtain ⟨kind, A1, c1, cells, A2, c2, kids, piece, next, rfl, hr1, hl1, hr2, hl2, hF⟩ := OpenPage.open_page (hval 0 35 v0 rfl rfl) h0 (fun n hn => by
    have := List.all_eq_true.1 hsz n (DataW.weights_mem_each (j := 0) (t := 35) (d := d0) rfl rfl n hn)
    simpa using this)
  obtain ⟨kind', A1', c1', cells', A2', c2', kids', piece', next', rfl, hr1', hl1', hr2', hl2', hF'⟩ := OpenPage.open_page (hval 1 35 v1 rfl rfl) h1 (fun n hn => by
    have := List.all_eq_true.1 hsz n (DataW.weights_mem_each (j := 1) (t := 35) (d := d1) rfl rfl n hn)
    simpa using this)
  clear hA0 hval0 hsz0 hsz
  obtain ⟨k, hk⟩ := Pure.PageKinds kind kind' cells cells' kids kids' piece piece' next next' hF hF'
  refine (Sp.pageKinds0.calls k kind A1 c1 cells A2 c2 kids piece next kind' A1' c1' cells' A2' c2' kids' piece' next' true W hr1 hl1 hr2 hl2 hr1' hl1' hr2' hl2' hk).mono fun e W' ⟨he, bel⟩ => ?_
  subst he
  exact ⟨_, rfl, _, _, _, [], _, [], hW', trodAll_mk1 (shut_bool Try.underlying4 _), (trodAll_cons_mk (Below.trod laidOut (by kernel_rfl) (of_decide_eq_true (by kernel_rfl)) k0 bel lt0) (trodAll_cons_mk (Below.trod laidOut (by kernel_rfl) (of_decide_eq_true (by kernel_rfl)) k1 bel lt1) trodAll_mk0)), rfl, bel.frame _, fun h => by cases h⟩
theorem over : Rows.pageKindsRow.holds Try.pinned (OpenSpec.ofChange Rows.pageKindsSpec) :=
  OpenClaim.holds_of_wide 6 Try.f6 rfl rfl rfl rfl rfl rfl rfl ⟨rfl, rfl, rfl, rfl, rfl⟩ rfl rfl rfl rfl rfl (by kernel_rfl) Try.func6 (by kernel_rfl)
    (of_decide_eq_true (by kernel_rfl)) (by unfold Func.isWrapper; first | (rw [if_pos (by decide +kernel)]; kernel_rfl) | (rw [if_neg (by decide +kernel)]; exact ⟨rfl, rfl⟩))
    (fun os started H enc _ => lifted os started H enc)
theorem proved : Rows.PageKindsSaid := over
#print axioms proved
end Go.Proofs.Ytgbcfkcnoncgdaa.pageKinds
namespace Go.Proofs.Ytgbcfkcnoncgdaa
/-- The row, under a short name, for the claim. -/
theorem pageKinds_holds : Rows.PageKindsSaid := pageKinds.proved
end Go.Proofs.Ytgbcfkcnoncgdaa
