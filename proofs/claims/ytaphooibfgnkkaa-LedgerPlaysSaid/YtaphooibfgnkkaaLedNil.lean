/- The walk of LedgerNil. -/
import Derived.Test.YtaphooibfgnkkaaLedOps
namespace Go.Proofs.Ytaphooibfgnkkaa.Hand
open Go.RowKit Go.Proofs.Ytaphooibfgnkkaa.OpenLop Go.Proofs.YtaphooibfgnkkaaW.PrintWords Go.Proofs.YtaphooibfgnkkaaW.PrintLast Go.Proofs.YtaphooibfgnkkaaW.PrintMore
set_option linter.unusedVariables false
set_option linter.unusedSimpArgs false
theorem take_0 (U : Nat → Bool) : takeF U 0 = none := rfl
theorem zero_cells : Cells ledZ ((0 : Nat) : Int) none_ none_ none_ := by
  refine ⟨zero_size, by unfold ledZ; rw [List.getElem?_toArray]; rfl, fun j hj => ?_, fun j hj => ?_, fun j hj => ?_⟩ <;> exact zero_at _ (by omega) (by omega)
theorem zero_lg (w : World) : Lg (w.alloc (.cells ledZ 51)) w.heap.size 0 none_ none_ none_ := ⟨⟨_, blk_new _ _, zero_cells⟩, Nat.zero_le _⟩
/-- A list of one call, built. -/
theorem one_lop {w : World} {g : Nat} {k : Int} {A B : Option Addr} {c1 c2 : Nat} {l m : List Int} {C : Array Value} {T : TypeId} (h : w.heap[g]? = some (.cells C T (0, 0))) (hC : C = #[.int .i64 k, .slice A l.length c1, .slice B m.length c2])
    (h1 : l.length ≤ c1) (hA : (Kd.int .i64).C w A l.length l) (h2 : m.length ≤ c2) (hB : (Kd.int .i64).C w B m.length m) :
    Kd.C kLop w (some ⟨g, 0, none⟩) 1 [(k, l, m)] := by
  subst hC
  refine ⟨rfl, by decide, fun _ => ⟨_, rfl, fun j p hp => ?_⟩⟩
  match j, hp with
  | 0, hp =>
    obtain rfl : (k, l, m) = p := by simpa using hp
    refine ⟨[.int .i64 k, .slice A l.length c1, .slice B m.length c2], rfl, ⟨_, _, rfl, rfl, _, _, rfl, ⟨A, c1, rfl, h1, hA⟩, ⟨B, c2, rfl, h2, hB⟩⟩, fun j u hu => ?_⟩
    match j, hu with
    | 0, hu => exact (blk_cell h _).trans hu
    | 1, hu => exact (blk_cell h _).trans hu
    | 2, hu => exact (blk_cell h _).trans hu
/-- The call's own copy in memory. -/
structure Own (C : Array Value) (w w' : World) : Prop where
  bel : Below w.heap.size w w'
  blk : w'.heap[w.heap.size]? = some (.cells C 42 (0, 0))
  lt : w.heap.size < w'.heap.size
theorem Own.first (C : Array Value) (w : World) : Own C w (w.alloc (.cells C 42)) := ⟨below_alloc (Below.refl _ _) _, blk_new _ _, blk_lt (blk_new _ _)⟩
theorem Own.step {C : Array Value} {w a b : World} (h : Own C w a) (hb : Below a.heap.size a b) : Own C w b := ⟨below_step h.bel hb, blk_below h.blk hb, Nat.lt_of_lt_of_le h.lt hb.size⟩
theorem Own.only {C : Array Value} {w a b : World} {g : Nat} (h : Own C w a) (hb : Only a b g) (hg : w.heap.size < g) : Own C w b := ⟨hb.below h.bel (by omega) h.bel.size, (hb.block _ h.lt (by omega)).trans h.blk, Nat.lt_of_lt_of_le h.lt hb.size⟩
theorem Own.at {C : Array Value} {w a : World} (h : Own C w a) (j : Nat) : a.cell? ⟨w.heap.size, j, none⟩ = C[j]? := blk_cell h.blk j
theorem own3 {k : Int} {X Y : Value} {w a : World} (h : Own #[.int .i64 k, X, Y] w a) : a.cell? ⟨w.heap.size, 0, none⟩ = some (.int .i64 k) ∧ a.cell? ⟨w.heap.size, 1, none⟩ = some X ∧ a.cell? ⟨w.heap.size, 2, none⟩ = some Y := ⟨h.at 0, h.at 1, h.at 2⟩
set_option maxHeartbeats 4000000 in
set_option maxRecDepth 100000 in
theorem nil_walk (k : Int) (A B : Option Addr) (c1 c2 : Nat) (l m : List Int) (zero : Bool) (w : World) (hF : FO (k, l, m)) (h1 : l.length ≤ c1) (hA : (Kd.int .i64).C w A l.length l) (h2 : m.length ≤ c2) (hB : (Kd.int .i64).C w B m.length m) :
    Calls Try.prog 7 #[.agg #[.int .i64 k, .slice A l.length c1, .slice B m.length c2], .bool zero] w fun e w' => e = .returned (.bool true) ∧ Below w.heap.size w w' := by
  have HA := Aside0.mk hA
  have HB := Aside0.mk hB
  have H1 := Aside0.mk h1
  have H2 := Aside0.mk h2
  have HF : Aside0 (∀ x ∈ [(k, l, m)], FO x) := ⟨by simpa using hF⟩
  have hl : l.length ≤ 140737488355328 := by have := hF.2.1.2; simp only at this; omega
  have hm : m.length ≤ 140737488355328 := by have := hF.2.2.2; simp only at this; omega
  clear hA hB h1 h2 hF
  have HW := Aside0.mk (Own.first #[.int .i64 k, .slice A l.length c1, .slice B m.length c2] w)
  have HFew : Aside0 (∀ W, Own #[.int .i64 k, .slice A l.length c1, .slice B m.length c2] w W → Calls Try.prog 16 #[.slice (some ⟨W.heap.size, 0, none⟩) 1 1] (W.alloc (.cells #[.int .i64 k, .slice A l.length c1, .slice B m.length c2] 42)) (FewOut (W.alloc (.cells #[.int .i64 k, .slice A l.length c1, .slice B m.length c2] 42)) [(k, l, m)])) :=
    ⟨fun W hW => few_any (l := [(k, l, m)]) (one_lop (blk_new _ _) rfl H1.out (Kd.C_below HA.out (below_alloc hW.bel _)) H2.out (Kd.C_below HB.out (below_alloc hW.bel _))) (by simp) HF.out⟩
  cases hfew : fewB [(k, l, m)]
  · go_enter Try.func7, Try.ntmps7
    go_wp2_with (first | (go_at_call 8; have _q := HW2; refine (awake_true _).mono ?_; rintro e w3 ⟨rfl, hb⟩; have HW3 := Aside0.mk (HW2.out.step hb); clear hb) | (go_at_call 8; refine (awake_true _).mono ?_; rintro e w1 ⟨rfl, hb⟩; have HW1 := Aside0.mk (HW.out.step hb); obtain ⟨hc0, hc1, hc2⟩ := own3 HW1.out; clear hb) | (go_at_call 16; refine (HFew.out _ HW1.out).mono ?_; rintro e w2 ⟨rfl, hb⟩; rw [hfew]; have HW2 := Aside0.mk ((HW1.out.step (below_alloc (Below.refl _ _) _)).step hb); clear hb))
    go_ret
    exact ⟨rfl, HW3.out.bel⟩
  · cases zero
    · go_enter Try.func7, Try.ntmps7
      go_wp2_with (first | (go_at_call 8; refine (awake_true _).mono ?_; rintro e w1 ⟨rfl, hb⟩; have HW1 := Aside0.mk (HW.out.step hb); obtain ⟨hc0, hc1, hc2⟩ := own3 HW1.out; clear hb) | (go_at_call 16; refine (HFew.out _ HW1.out).mono ?_; rintro e w2 ⟨rfl, hb⟩; rw [hfew]; have HW2 := Aside0.mk ((HW1.out.step (below_alloc (Below.refl _ _) _)).step hb); obtain ⟨hd0, hd1, hd2⟩ := own3 HW2.out; clear hb) | (go_at_call 10; refine (commit_nil _ _).mono ?_; rintro e w4 ⟨rfl, rfl⟩) | (go_at_call 13; refine (reset_nil _ _ _).mono ?_; rintro e w4 ⟨rfl, rfl⟩) | (go_at_call 15; refine (abort_nil _).mono ?_; rintro e w4 ⟨rfl, rfl⟩) | (go_at_call 14; refine (take_nil _).mono ?_; rintro e w4 ⟨rfl, rfl⟩) | (go_at_call 11; refine (free_nil _).mono ?_; rintro e w4 ⟨rfl, rfl⟩) | (go_at_call 12; refine (use_nil _ _).mono ?_; rintro e w4 ⟨rfl, rfl⟩))
      go_ret
      exact ⟨rfl, HW2.out.bel⟩
    · have hz := zero_led
      generalize hZ : ledZ = Z at hz
      have HZ := Aside0.mk hZ
      clear hZ
      have hi : ∀ i : Int, useI 0 (setF l) (setF m) none_ i = false := fun i => by
        unfold useI
        by_cases h : 0 ≤ i
        · rw [decide_eq_true h, decide_eq_false (by omega)]; rfl
        · rw [decide_eq_false h]; rfl
      go_enter Try.func7, Try.ntmps7
      go_wp2_with (first | (go_at_call 8; refine (awake_true _).mono ?_; rintro e w1 ⟨rfl, hb⟩; have HW1 := Aside0.mk (HW.out.step hb); obtain ⟨hc0, hc1, hc2⟩ := own3 HW1.out; clear hb) | (go_at_call 16; refine (HFew.out _ HW1.out).mono ?_; rintro e w2 ⟨rfl, hb⟩; rw [hfew]; have HW2 := Aside0.mk (((HW1.out.step (below_alloc (Below.refl _ _) _)).step hb).step (below_alloc (Below.refl _ _) (.cells Z 51))); have HG := Aside0.mk ((HW1.out.step (below_alloc (Below.refl _ _) _)).step hb).lt; have HL2 := Aside0.mk (HZ.out ▸ zero_lg w2); obtain ⟨hd0, hd1, hd2⟩ := own3 HW2.out; clear hb hc0 hc1 hc2) | (go_at_call 10; refine (commit_any (c := c1) HL2.out (Kd.C_below HA.out HW2.out.bel) hl).mono ?_; rintro e w4 ⟨rfl, ho, hg⟩; have HL4 := Aside0.mk hg; have HW4 := Aside0.mk (HW2.out.only ho HG.out); clear ho hg; obtain ⟨he0, he1, he2⟩ := own3 HW4.out) | (go_at_call 13; refine (reset_any (c := c1) (d := c2) HL4.out (Kd.C_below HA.out HW4.out.bel) (Kd.C_below HB.out HW4.out.bel) hl hm).mono ?_; rintro e w5 ⟨rfl, ho, hg⟩; have HL5 := Aside0.mk hg; have HW5 := Aside0.mk (HW4.out.only ho HG.out); clear ho hg) | (go_at_call 15; refine (abort_any HL5.out).mono ?_; rintro e w6 ⟨rfl, ho, hg⟩; have HL6 := Aside0.mk hg; have HW6 := Aside0.mk (HW5.out.only ho HG.out); clear ho hg) | (go_at_call 14; refine (take_any HL6.out).mono ?_; unfold TakeOut; rw [take_0]; rintro e w7 ⟨rfl, ho, hg⟩; have HL7 := Aside0.mk hg; have HW7 := Aside0.mk (HW6.out.only ho HG.out); clear ho hg; obtain ⟨hf0, hf1, hf2⟩ := own3 HW7.out) | (go_at_call 11; refine (free_any HL7.out).mono ?_; rintro e w8 ⟨rfl, rfl⟩) | (go_at_call 12; refine (use_any HL7.out _).mono ?_; rw [show tm none_ none = none_ from rfl, hi]; rintro e w9 ⟨rfl, rfl⟩))
      go_ret
      exact ⟨rfl, HW7.out.bel⟩
end Go.Proofs.Ytaphooibfgnkkaa.Hand
