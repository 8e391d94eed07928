/- A call of the script (two lists of ints), and a list of them, opened; as they lie in memory; and `few`. -/
import Derived.Test.YtaphooibfgnkkaaLedOnce
import Derived.Test.YtaphooibfgnkkaaOpenInts
namespace Go.Proofs.Ytaphooibfgnkkaa.OpenLop
open Go.Proofs.Ytaphooibfgnkkaa.Open Go.Proofs.Ytaphooibfgnkkaa.OpenInts
open Go.RowKit Go.Proofs.YtaphooibfgnkkaaW.PrintWords Go.Proofs.YtaphooibfgnkkaaW.PrintLast Go.Proofs.YtaphooibfgnkkaaW.PrintMore
set_option linter.unusedVariables false

abbrev Lop := Int × (List Int × List Int)
abbrev kLop : Kd Lop := Kd.pair (Kd.int .i64) (Kd.pair (Kd.slice 3 (Kd.int .i64)) (Kd.slice 3 (Kd.int .i64)))
def FL (l : List Int) : Prop := (∀ c ∈ l, I64 c) ∧ l.length * 8 ≤ 140737488351232
def FO (c : Lop) : Prop := I64 c.1 ∧ FL c.2.1 ∧ FL c.2.2
theorem o_lop : Opens Try.prog 42 kLop FO :=
  opens_struct Try.underlying42 (by kernel_rfl) (opensF_cons rfl (by decide) o_int (opensF_cons rfl (by decide) o_ints (opensF_one rfl o_ints)))
theorem o_lops : Opens Try.prog 37 (Kd.slice 42 kLop) (fun l => (∀ c ∈ l, FO c) ∧ l.length * 56 ≤ 140737488351232) :=
  opens_slice 56 Try.underlying37 (by kernel_rfl) (by kernel_rfl) o_lop
theorem open_lop {H : Type} {enc : TypeId × Value → H} {W : World} {v : Value} {d : DataW H} {ps : List MemPlace} {r : Reach} {b0 : Nat} (hval : Value.okWide Try.prog W r b0 42 v)
    (h : DataW.Trod enc Try.prog W 0 (fun _ => true) true 42 v d ps) (hw : ∀ n ∈ d.weights Try.prog 42, n ≤ reachBytes) :
    ∃ (k : Int) (A B : Option Addr) (c1 c2 : Nat) (l m : List Int), v = .agg #[.int .i64 k, .slice A l.length c1, .slice B m.length c2] ∧ FO (k, l, m) ∧
      l.length ≤ c1 ∧ (Kd.int .i64).C W A l.length l ∧ m.length ≤ c2 ∧ (Kd.int .i64).C W B m.length m := by
  obtain ⟨cs, rfl, hsz⟩ := Go.WideShapes.okWide_struct Try.underlying42 hval
  obtain ⟨fuel, hf⟩ := h
  obtain ⟨⟨k, l, m⟩, hK, hF⟩ := o_lop.2 H enc W 0 _ _ fuel _ _ hf hw
  obtain ⟨_, _, e1, rfl, _, _, rfl, ⟨A, c1, rfl, hc1, hC1⟩, ⟨B, c2, rfl, hc2, hC2⟩⟩ := hK
  refine ⟨k, A, B, c1, c2, l, m, ?_, hF, hc1, hC1, hc2, hC2⟩
  have : cs.toList = [.int .i64 k, .slice A l.length c1, .slice B m.length c2] := by simpa [Value.cells] using e1
  rw [show cs = cs.toList.toArray by simp, this]
theorem open_lops {H : Type} {enc : TypeId × Value → H} {W : World} {v : Value} {d : DataW H} {ps : List MemPlace} {r : Reach} {b0 : Nat} (hval : Value.okWide Try.prog W r b0 37 v)
    (h : DataW.Trod enc Try.prog W 0 (fun _ => true) true 37 v d ps) (hw : ∀ n ∈ d.weights Try.prog 37, n ≤ reachBytes) :
    ∃ (A : Option Addr) (c : Nat) (l : List Lop), v = .slice A l.length c ∧ Kd.C kLop W A l.length l ∧ l.length ≤ c ∧ (∀ c ∈ l, FO c) ∧ l.length * 56 ≤ 140737488351232 := by
  obtain ⟨a, len, cap, rfl⟩ := Go.WideShapes.okWide_slice Try.underlying37 hval
  obtain ⟨fuel, hf⟩ := h
  obtain ⟨l, ⟨A, c, e1, hl, hC⟩, hF⟩ := o_lops.2 H enc W 0 _ _ fuel _ _ hf hw
  have e2 : (Value.slice a len cap).cells.toList = [.slice A l.length c] := e1
  simp only [Value.cells] at e2
  injection e2 with e3
  exact ⟨A, c, l, e3, hC, hl, hF.1, hF.2⟩
end Go.Proofs.Ytaphooibfgnkkaa.OpenLop
namespace Go.Proofs.Ytaphooibfgnkkaa.Hand
open Go.RowKit Go.Proofs.Ytaphooibfgnkkaa.OpenLop Go.Proofs.YtaphooibfgnkkaaW.PrintWords Go.Proofs.YtaphooibfgnkkaaW.PrintLast Go.Proofs.YtaphooibfgnkkaaW.PrintMore
set_option linter.unusedVariables false
set_option linter.unusedSimpArgs false
/-- A call of the script, as it lies in memory. -/
theorem lop_cells {w : World} {A : Option Addr} {l : List Lop} {k : Nat} (h : Kd.C kLop w A l.length l) (hk : k < l.length) :
    ∃ ad A1 c1 A2 c2, A = some ad ∧ w.cell? (ad.add (k * 3)) = some (.int .i64 (l.getD k (0, [], [])).1) ∧
      w.cell? ⟨(ad.add (k * 3)).block, (ad.add (k * 3)).off + 1, none⟩ = some (.slice A1 (l.getD k (0, [], [])).2.1.length c1) ∧
      w.cell? ⟨(ad.add (k * 3)).block, (ad.add (k * 3)).off + 2, none⟩ = some (.slice A2 (l.getD k (0, [], [])).2.2.length c2) ∧
      (Kd.int .i64).C w A1 (l.getD k (0, [], [])).2.1.length (l.getD k (0, [], [])).2.1 ∧ (Kd.int .i64).C w A2 (l.getD k (0, [], [])).2.2.length (l.getD k (0, [], [])).2.2 ∧
      (l.getD k (0, [], [])).2.1.length ≤ c1 ∧ (l.getD k (0, [], [])).2.2.length ≤ c2 := by
  obtain ⟨ad, c, e, hl, hK, hc⟩ := Kd.C_get h (0, [], []) (k : Int) (by omega) (by omega)
  rw [Int.toNat_natCast] at hK hc
  obtain ⟨_, _, rfl, rfl, _, _, rfl, ⟨A1, c1, rfl, hc1, hC1⟩, ⟨A2, c2, rfl, hc2, hC2⟩⟩ := hK
  have h1 := hc 1 _ rfl
  have h2 := hc 2 _ rfl
  rw [← add_add] at h1 h2
  exact ⟨ad, A1, c1, A2, c2, e, hc 0 _ rfl, h1, h2, hC1, hC2, hc1, hc2⟩
def fewOne (o : Lop) : Bool := decide (o.2.1.length + o.2.2.length ≤ 200)
def fewB (l : List Lop) : Bool := decide (l.length ≤ 150) && l.all fewOne
def FewRel (w : World) (l : List Lop) (i : Value) (wr : World) : Prop := ∃ k : Nat, k ≤ l.length ∧ i = .int .i64 (k : Int) ∧ (l.take k).all fewOne = true ∧ Below w.heap.size w wr
def FewOut (w : World) (l : List Lop) (e : Ending) (w' : World) : Prop := e = .returned (.bool (fewB l)) ∧ Below w.heap.size w w'
theorem few_not {l : List Lop} {k : Nat} (hk : k < l.length) (h : fewOne (l.getD k (0, [], [])) = false) : fewB l = false := by
  unfold fewB
  rw [List.all_eq_false.2 ⟨l.getD k (0, [], []), by rw [List.getD_eq_getElem?_getD, List.getElem?_eq_getElem hk]; exact List.getElem_mem hk, by rw [h]; simp⟩, Bool.and_false]
theorem few_next {l : List Lop} {k : Nat} (hk : k < l.length) (h : fewOne (l.getD k (0, [], [])) = true) (ha : (l.take k).all fewOne = true) : (l.take (k + 1)).all fewOne = true := by
  rw [List.take_add_one, List.all_append, ha, Bool.true_and]
  rw [List.getD_eq_getElem?_getD, List.getElem?_eq_getElem hk] at h
  rw [List.getElem?_eq_getElem hk]
  simpa using h
set_option maxHeartbeats 1000000 in
theorem few_any {w : World} {A : Option Addr} {c : Nat} {l : List Lop} (hC : Kd.C kLop w A l.length l) (hl : l.length ≤ 140737488355328) (hF : ∀ x ∈ l, FO x) :
    Calls Try.prog 16 #[.slice A l.length c] w (FewOut w l) := by
  have HC := Aside0.mk hC
  have HF := Aside0.mk hF
  clear hC hF
  by_cases h1 : l.length ≤ 150
  · have t1 : decide (150 < (l.length : Int)) = false := decide_eq_false (by omega)
    go_enter Try.func16, Try.ntmps16
    go_wp2
    go_loopw [9] (fun i wr => FewRel w l i wr) (fun i _ => l.length - (intOf i).toNat)
    case atStart => exact ⟨0, Nat.zero_le _, rfl, rfl, Below.refl _ _⟩
    case round =>
      obtain ⟨k, hk, rfl, hall, hB⟩ := hrel
      by_cases hlt : k < l.length
      · obtain ⟨ad, A1, c1, A2, c2, rfl, hc0, hc1, hc2, hC1, hC2, hq1, hq2⟩ := lop_cells (Kd.C_below HC.out hB) hlt
        have hFk : FO (l.getD k (0, [], [])) := HF.out _ (by rw [List.getD_eq_getElem?_getD, List.getElem?_eq_getElem hlt]; exact List.getElem_mem hlt)
        have hnx := few_next hlt (ha := hall)
        have hno := few_not hlt
        generalize l.getD k (0, [], []) = op at hc0 hc1 hc2 hC1 hC2 hFk hq1 hq2 hnx hno
        obtain ⟨a, m1, m2⟩ := op
        simp only at hc0 hc1 hc2 hC1 hC2 hFk hq1 hq2
        obtain ⟨_, ⟨_, f1⟩, ⟨_, f2⟩⟩ := hFk
        simp only at f1 f2
        have hs : IntKind.i64.wrap ((m1.length : Int) + (m2.length : Int)) = (m1.length : Int) + (m2.length : Int) := IntWalk.i64_in _ (by omega)
        have HNX := Aside0.mk hnx
        have HNO := Aside0.mk hno
        clear hnx hno hC1 hC2 hall
        by_cases hf : m1.length + m2.length ≤ 200
        · have t2 : decide (200 < (m1.length : Int) + (m2.length : Int)) = false := decide_eq_false (by omega)
          go_wp2_with (go_quiet (fail))
          go_roundw
          case rel => exact ⟨k + 1, by omega, by go_num, HNX.out (by unfold fewOne; exact decide_eq_true hf), pw_below_drewN hB _⟩
          case measure => simp [intOf]; omega
        · have t2 : decide (200 < (m1.length : Int) + (m2.length : Int)) = true := decide_eq_true (by omega)
          go_wp2_with (go_quiet (fail))
          go_ret
          exact ⟨by rw [HNO.out (by unfold fewOne; exact decide_eq_false hf)]; rfl, pw_below_drewN hB _⟩
      · go_wp2
        go_ret
        refine ⟨?_, hB⟩
        rw [List.take_of_length_le (by omega)] at hall
        unfold fewB; rw [hall, decide_eq_true h1]; rfl
  · have t1 : decide (150 < (l.length : Int)) = true := decide_eq_true (by omega)
    go_enter Try.func16, Try.ntmps16
    go_wp2
    go_ret
    refine ⟨?_, Below.refl _ _⟩
    unfold fewB; rw [decide_eq_false h1]; rfl
end Go.Proofs.Ytaphooibfgnkkaa.Hand
