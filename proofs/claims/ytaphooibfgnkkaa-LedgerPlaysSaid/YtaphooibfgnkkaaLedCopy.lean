/- append([]int{}, l...): a new list with what is in l. -/
import Derived.Test.YtaphooibfgnkkaaLedRef3
import Derived.ArgAppend
namespace Go.Proofs.Ytaphooibfgnkkaa.Hand
open Go.RowKit Go.Proofs.Ytaphooibfgnkkaa.OpenLop Go.Proofs.YtaphooibfgnkkaaW.PrintWords Go.Proofs.YtaphooibfgnkkaaW.PrintLast Go.Proofs.YtaphooibfgnkkaaW.PrintMore
set_option linter.unusedVariables false
set_option linter.unusedSimpArgs false
/-- A fresh list: of blocks from g0 on. -/
def Fresh (w : World) (g0 : Nat) (v : Value) (l : List Int) : Prop := ∃ A c, v = .slice A l.length c ∧ (Kd.int .i64).C w A l.length l ∧ ∀ ad, A = some ad → g0 ≤ ad.block ∧ ad.block < w.heap.size
theorem Fresh.below {w w' : World} {g0 : Nat} {v : Value} {l : List Int} (h : Fresh w g0 v l) (hb : Below w.heap.size w w') : Fresh w' g0 v l := by
  obtain ⟨A, c, e, hC, ha⟩ := h
  exact ⟨A, c, e, Kd.C_below hC hb, fun ad e => ⟨(ha ad e).1, Nat.lt_of_lt_of_le (ha ad e).2 hb.size⟩⟩
theorem run_copy {W : World} {t e ty : TypeId} (ht : Try.prog.underlying t = some (.slice e)) (hinfo : (Try.prog.info? e).map (fun i => (i.zero, i.size, i.bytes)) = some (some (.int .i64 0), 1, 8)) {g0 : Nat} (hg : g0 < W.heap.size) {A : Option Addr} {c : Nat} {l : List Int} (hC : (Kd.int .i64).C W A l.length l) (hl : l.length ≤ 1000) :
    ∃ v w', (Builtin.append_ #[t, t] ty #[.slice (some ⟨g0, 0, none⟩) 0 0, .slice A l.length c]).run Try.prog W = .ok v w' ∧ Below W.heap.size W w' ∧ Fresh w' g0 v l := by
  obtain ⟨i0, hi, hzz⟩ := Option.map_eq_some_iff.1 hinfo
  simp only [Prod.mk.injEq] at hzz
  obtain ⟨hz0, hz1, hz2⟩ := hzz
  rcases Nat.eq_zero_or_pos l.length with h0 | h0
  · obtain rfl : l = [] := List.eq_nil_of_length_eq_zero h0
    refine ⟨.slice (some ⟨g0, 0, none⟩) 0 0, W, ?_, Below.refl _ _, _, 0, rfl, ⟨rfl, by decide, fun h => absurd h (by decide)⟩, fun ad e => by injection e with e; subst e; exact ⟨Nat.le_refl _, hg⟩⟩
    cases A <;> simp [Builtin.append_, run_underlying ht, sizeOf, typeInfo, hi, Builtin.lenOf, Builtin.firstCells, storeCells, loadCells, loadCellsFrom]
  · obtain ⟨ad, rfl, hcell⟩ := (Kd.reads_of_C (enc := Value.int .i64) (d := (0 : Int)) (h1 := fun _ => rfl) hC).2.2 h0
    obtain ⟨v, w', hr, hown, hg'⟩ := run_append_arg_grows W t ty e i0 (.int .i64 0) 1 8 ht hi hz0 hz1 hz2 rfl (by omega) ⟨g0, 0, none⟩ 0 0 [] rfl (fun j u hu => by simp at hu) ad l.length c (nums .i64 l) (by simp [nums]) (fun j u hu => by
      have hj : j < l.length := by
        rcases Nat.lt_or_ge j l.length with h | h
        · exact h
        · simp [nums, List.getElem?_eq_none h] at hu
      have := hcell j hj
      simp [nums, List.getElem?_eq_getElem hj] at hu
      subst hu
      rw [this]
      simp [List.getD_eq_getElem?_getD, List.getElem?_eq_getElem hj]) (by omega) (by simp only [maxLen]; omega) (by omega)
    have hb : Below W.heap.size W w' := ⟨hg'.os, hg'.tape, hg'.output, hg'.size, fun k hk => hg'.block k hk (by simp)⟩
    have hown2 : w'.ownsRow W.heap.size e 1 v l.length (nums .i64 l) := by
      have := hown
      rw [Nat.zero_add, List.nil_append] at this
      exact this
    obtain ⟨A', c', rfl, hrd⟩ := own_reads hown2
    refine ⟨_, w', hr, hb, A', c', rfl, Kd.C_of_reads (d := (0 : Int)) (h1 := fun _ => rfl) hrd, fun ad2 e2 => ?_⟩
    subst e2
    have h1 := own_base hown2 ad2.block (by rfl)
    have h2 := own_lt hown2 ad2.block (by rfl)
    exact ⟨by omega, h2⟩
theorem wp_copy {ops : Array Oper} {rest : List Oper} {o : Oper} {a : Act} {Q : Exit → Act → World → Prop} {W : World} (hgd : o.guard = none) (s x : Operand) (t e : TypeId)
    (ho : o.op = .call { callee := .builtin .append, args := #[s, x], argTypes := #[t, t] }) (ht : Try.prog.underlying t = some (.slice e)) (hinfo : (Try.prog.info? e).map (fun i => (i.zero, i.size, i.bytes)) = some (some (.int .i64 0), 1, 8))
    {g0 : Nat} (hg : g0 < W.heap.size) {A : Option Addr} {c : Nat} {l : List Int} (hs : a.eval s = .slice (some ⟨g0, 0, none⟩) 0 0) (hx : a.eval x = .slice A l.length c) (hC : (Kd.int .i64).C W A l.length l) (hl : l.length ≤ 1000)
    (h : ∀ v1 w1, Below W.heap.size W w1 → Fresh w1 g0 v1 l → wpList Try.prog ops Q rest (a.put o.dst v1) w1) : wpList Try.prog ops Q (o :: rest) a W := by
  obtain ⟨v1, w1, hr, hb, hf⟩ := run_copy (ty := o.type) ht hinfo hg hC hl (c := c)
  refine wpList_plain hgd fun K hK => ?_
  unfold Oper.wp execOp
  simp only [ho, resolve, invoke, builtin, Sem.run_bind, Sem.run_pure, Result.andThen_ok, List.map_toArray, List.map_cons, List.map_nil, hs, hx, hr]
  exact hK _ _ (h v1 w1 hb hf)
theorem run_copy_op {op : Oper} {a : Act} {W w1 : World} {v1 : Value} {A : Option Addr} {c n : Nat} {g0 : Nat} (s x : Operand) (t : TypeId) (ho : op.op = .call { callee := .builtin .append, args := #[s, x], argTypes := #[t, t] })
    (hs : a.eval s = .slice (some ⟨g0, 0, none⟩) 0 0) (hx : a.eval x = .slice A n c) (hr : (Builtin.append_ #[t, t] op.type #[.slice (some ⟨g0, 0, none⟩) 0 0, .slice A n c]).run Try.prog W = .ok v1 w1) :
    (execOp a.eval op).run Try.prog W = .ok (.value v1) w1 := by
  unfold execOp
  simp only [ho, resolve, invoke, builtin, Sem.run_bind, Sem.run_pure, Result.andThen_ok, List.map_toArray, List.map_cons, List.map_nil, hs, hx, hr]
theorem Lg.other {w w' : World} {g n q : Nat} {O N T : Marks} (h : Lg w g n O N T) (ho : Only w w' q) (hq : g ≠ q) : Lg w' g n O N T := by
  obtain ⟨⟨C, h1, h2⟩, h3⟩ := h
  exact ⟨⟨C, (ho.block g (blk_lt h1) hq).trans h1, h2⟩, h3⟩
/-- The call's own copy. -/
structure Cp (C : Array Value) (q : Nat) (w : World) : Prop where
  blk : w.heap[q]? = some (.cells C 42 (0, 0))
theorem Cp.below {C : Array Value} {q : Nat} {w w' : World} (h : Cp C q w) (hb : Below w.heap.size w w') : Cp C q w' := ⟨blk_below h.blk hb⟩
theorem Cp.only {C : Array Value} {q g : Nat} {w w' : World} (h : Cp C q w) (hb : Only w w' g) (hq : q ≠ g) : Cp C q w' := ⟨(hb.block _ (blk_lt h.blk) hq).trans h.blk⟩
theorem Cp.three {k : Int} {X Y : Value} {q : Nat} {w : World} (h : Cp #[.int .i64 k, X, Y] q w) : w.cell? ⟨q, 0, none⟩ = some (.int .i64 k) ∧ w.cell? ⟨q, 1, none⟩ = some X ∧ w.cell? ⟨q, 2, none⟩ = some Y := ⟨blk_cell h.blk 0, blk_cell h.blk 1, blk_cell h.blk 2⟩
end Go.Proofs.Ytaphooibfgnkkaa.Hand
