/- An argument that is a list of ints, opened. -/
import Derived.Test.YtaphooibfgnkkaaRows
import Derived.Test.YtaphooibfgnkkaaOpen
namespace Go.Proofs.Ytaphooibfgnkkaa.OpenInts
open Go.Proofs.Ytaphooibfgnkkaa.Open
open Go.RowKit Go.Proofs.YtaphooibfgnkkaaW.PrintWords Go.Proofs.YtaphooibfgnkkaaW.PrintLast Go.Proofs.YtaphooibfgnkkaaW.PrintMore
set_option linter.unusedVariables false
abbrev I64 (v : Int) : Prop := (Lit.int .i64 v).wf = true
theorem o_int : Opens Try.prog 3 (Kd.int .i64) I64 := opens_int Try.underlying3 (by kernel_rfl)
theorem o_ints : Opens Try.prog 22 (Kd.slice 3 (Kd.int .i64)) (fun l => (∀ c ∈ l, I64 c) ∧ l.length * 8 ≤ 140737488351232) :=
  opens_slice 8 Try.underlying22 (by kernel_rfl) (by kernel_rfl) o_int
theorem open_ints {H : Type} {enc : TypeId × Value → H} {W : World} {v : Value} {d : DataW H} {ps : List MemPlace} {r : Reach} {b0 : Nat} (hval : Value.okWide Try.prog W r b0 22 v)
    (h : DataW.Trod enc Try.prog W 0 (fun _ => true) true 22 v d ps) (hw : ∀ n ∈ d.weights Try.prog 22, n ≤ reachBytes) :
    ∃ (A : Option Addr) (c : Nat) (l : List Int), v = .slice A l.length c ∧ (Kd.int .i64).C W A l.length l ∧ l.length ≤ c ∧ (∀ c ∈ l, I64 c) ∧ l.length * 8 ≤ 140737488351232 := by
  obtain ⟨a, len, cap, rfl⟩ := Go.WideShapes.okWide_slice Try.underlying22 hval
  obtain ⟨fuel, hf⟩ := h
  obtain ⟨l, ⟨A, c, e1, hl, hC⟩, hF⟩ := o_ints.2 H enc W 0 _ _ fuel _ _ hf hw
  have e2 : (Value.slice a len cap).cells.toList = [.slice A l.length c] := e1
  simp only [Value.cells] at e2
  injection e2 with e3
  exact ⟨A, c, l, e3, hC, hl, hF.1, hF.2⟩
end Go.Proofs.Ytaphooibfgnkkaa.OpenInts
