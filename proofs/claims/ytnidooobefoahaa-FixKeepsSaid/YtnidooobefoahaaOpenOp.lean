/- An argument of the type of a call, and a list of them, opened. -/
import Derived.Test.YtnidooobefoahaaRows
import Derived.Test.YtnidooobefoahaaOpen
namespace Go.Proofs.Ytnidooobefoahaa.OpenOp
open Go.Proofs.Ytnidooobefoahaa.Open
open Go.RowKit Go.Proofs.YtnidooobefoahaaW.PrintWords Go.Proofs.YtnidooobefoahaaW.PrintLast Go.Proofs.YtnidooobefoahaaW.PrintMore
set_option linter.unusedVariables false

abbrev I64 (v : Int) : Prop := (Lit.int .i64 v).wf = true
theorem o_int : Opens Try.prog 3 (Kd.int .i64) I64 := opens_int Try.underlying3 (by kernel_rfl)
abbrev kOp : Kd (Int × Int) := Kd.pair (Kd.int .i64) (Kd.int .i64)
theorem o_op : Opens Try.prog 46 kOp (fun c => I64 c.1 ∧ I64 c.2) :=
  opens_struct Try.underlying46 (by kernel_rfl) (opensF_cons rfl (by decide) o_int (opensF_one rfl o_int))
theorem o_ops : Opens Try.prog 44 (Kd.slice 46 kOp) (fun l => (∀ c ∈ l, I64 c.1 ∧ I64 c.2) ∧ l.length * 16 ≤ 140737488351232) :=
  opens_slice 16 Try.underlying44 (by kernel_rfl) (by kernel_rfl) o_op
theorem open_op {H : Type} {enc : TypeId × Value → H} {W : World} {v : Value} {d : DataW H} {ps : List MemPlace} {r : Reach} {b0 : Nat} (hval : Value.okWide Try.prog W r b0 46 v)
    (h : DataW.Trod enc Try.prog W 0 (fun _ => true) true 46 v d ps) (hw : ∀ n ∈ d.weights Try.prog 46, n ≤ reachBytes) :
    ∃ k n : Int, v = .agg #[.int .i64 k, .int .i64 n] ∧ I64 k ∧ I64 n := by
  obtain ⟨cs, rfl, hsz⟩ := Go.WideShapes.okWide_struct Try.underlying46 hval
  obtain ⟨fuel, hf⟩ := h
  obtain ⟨⟨k, n⟩, hK, hF⟩ := o_op.2 H enc W 0 _ _ fuel _ _ hf hw
  obtain ⟨_, _, e1, rfl, rfl⟩ := hK
  refine ⟨k, n, ?_, hF.1, hF.2⟩
  have : cs.toList = [.int .i64 k, .int .i64 n] := by simpa [Value.cells] using e1
  rw [show cs = cs.toList.toArray by simp, this]
theorem open_ops {H : Type} {enc : TypeId × Value → H} {W : World} {v : Value} {d : DataW H} {ps : List MemPlace} {r : Reach} {b0 : Nat} (hval : Value.okWide Try.prog W r b0 44 v)
    (h : DataW.Trod enc Try.prog W 0 (fun _ => true) true 44 v d ps) (hw : ∀ n ∈ d.weights Try.prog 44, n ≤ reachBytes) :
    ∃ (A : Option Addr) (c : Nat) (l : List (Int × Int)), v = .slice A l.length c ∧ Kd.C kOp W A l.length l ∧ l.length ≤ c ∧ (∀ c ∈ l, I64 c.1 ∧ I64 c.2) ∧ l.length * 16 ≤ 140737488351232 := by
  obtain ⟨a, len, cap, rfl⟩ := Go.WideShapes.okWide_slice Try.underlying44 hval
  obtain ⟨fuel, hf⟩ := h
  obtain ⟨l, ⟨A, c, e1, hl, hC⟩, hF⟩ := o_ops.2 H enc W 0 _ _ fuel _ _ hf hw
  have e2 : (Value.slice a len cap).cells.toList = [.slice A l.length c] := e1
  simp only [Value.cells] at e2
  injection e2 with e3
  exact ⟨A, c, l, e3, hC, hl, hF.1, hF.2⟩
end Go.Proofs.Ytnidooobefoahaa.OpenOp
