/- The walk of LedgerPlays. -/
import Derived.Test.YtaphooibfgnkkaaLedCopy
import Derived.Test.YtaphooibfgnkkaaWLast
import Derived.Test.YtaphooibfgnkkaaWTab
import Derived.Test.YtaphooibfgnkkaaWInv
import Derived.Test.YtaphooibfgnkkaaWInvWords
import Derived.Deep.CutBlock
import Derived.Deep.CutRange
import Derived.Deep.DeepCutAuto
namespace Go.Proofs.Ytaphooibfgnkkaa.Hand
open Go.RowKit Go.Proofs.Ytaphooibfgnkkaa.OpenLop Go.Proofs.YtaphooibfgnkkaaW.PrintWords Go.Proofs.YtaphooibfgnkkaaW.PrintLast Go.Proofs.YtaphooibfgnkkaaW.PrintMore
set_option linter.unusedVariables false
set_option linter.unusedSimpArgs false
theorem useI_out {n : Nat} {O N T : Marks} {i : Int} (h : i < 0 ∨ (n : Int) ≤ i) : useI n O N T i = false := by
  unfold useI
  rcases h with h | h
  · rw [decide_eq_false (by omega : ¬ 0 ≤ i)]; rfl
  · rw [decide_eq_false (by omega : ¬ i < (n : Int)), Bool.and_false]; rfl
theorem useI_nat {n k : Nat} {O N T : Marks} (h : k < n) : useI n O N T (k : Int) = usedB O N T k := by
  unfold useI
  rw [decide_eq_true (by omega : (0 : Int) ≤ (k : Int)), decide_eq_true (by omega : (k : Int) < (n : Int)), Int.toNat_natCast]; rfl
theorem useI_S {n k : Nat} {O N T : List Int} (h : k < n) : useI n (setF O) (setF N) (setF T) (k : Int) = useS O N T k := useI_nat h
theorem alloc_lt (w : World) (t : TypeId) : w.heap.size < (w.alloc (.cells #[] t)).heap.size := blk_lt (blk_new w _)
def Lies (w : World) (bz : Nat) (v : Value) : Prop := ∃ g0, v = .slice (some ⟨g0, 0, none⟩) 0 0 ∧ bz ≤ g0 ∧ g0 < w.heap.size
theorem lies_below {w w' : World} {bz : Nat} {v : Value} (h : Lies w bz v) (hs : w.heap.size ≤ w'.heap.size) : Lies w' bz v := by
  obtain ⟨g0, h1, h2, h3⟩ := h
  exact ⟨g0, h1, h2, Nat.lt_of_lt_of_le h3 hs⟩
theorem blk_below_ex {w w' : World} {g2 : Nat} {t : TypeId} {P : Array Value → Prop} (h : ∃ C, w.heap[g2]? = some (.cells C t (0, 0)) ∧ P C) (hb : Below w.heap.size w w') : ∃ C, w'.heap[g2]? = some (.cells C t (0, 0)) ∧ P C := by
  obtain ⟨C, h1, h2⟩ := h
  exact ⟨C, blk_below h1 hb, h2⟩
theorem Fresh.from {w : World} {g0 bz : Nat} {v : Value} {l : List Int} (h : Fresh w g0 v l) (hb : bz ≤ g0) : Fresh w bz v l := by
  obtain ⟨A, c, e, hC, ha⟩ := h
  exact ⟨A, c, e, hC, fun ad e => ⟨Nat.le_trans hb (ha ad e).1, (ha ad e).2⟩⟩
theorem Fresh.row {w : World} {g2 bz : Nat} {v : Value} {l : List Int} (h : Fresh w bz v l) (hb : g2 < bz) : ∃ A c, v = .slice A l.length c ∧ Row w g2 w.heap.size A l := by
  obtain ⟨A, c, e, hC, ha⟩ := h
  exact ⟨A, c, e, hC, fun ad e => ⟨Nat.lt_of_lt_of_le hb (ha ad e).1, (ha ad e).2⟩⟩
theorem fresh_set {w : World} {g2 bz : Nat} {v : Value} {l : List Int} (h : Fresh w bz v l) (j : Nat) (u : Value) (hb : g2 < bz) : Fresh (w.setCell ⟨g2, j, none⟩ u) bz v l := by
  obtain ⟨A, c, e, hC, ha⟩ := h
  have hr : Row w g2 w.heap.size A l := ⟨hC, fun ad e => ⟨Nat.lt_of_lt_of_le hb (ha ad e).1, (ha ad e).2⟩⟩
  exact ⟨A, c, e, (hr.set j u).1, fun ad e => ⟨(ha ad e).1, by simpa [World.setCell] using (ha ad e).2⟩⟩
theorem cell_some {C : Array Value} (h : C.size = 4) (k : Nat) (hk : k < 4) : ∃ y, C[k]? = some y := ⟨C[k], Array.getElem?_eq_getElem (by omega)⟩
theorem cell_set {w : World} {g2 : Nat} {C : Array Value} {t : TypeId} (h : w.heap[g2]? = some (.cells C t (0, 0))) (hs : C.size = 4) (k : Nat) (hk : k < 4) (u : Value) : (w.setCell ⟨g2, k, none⟩ u).cell? ⟨g2, k, none⟩ = some u := by
  rw [blk_cell (blk_set h k u)]
  exact Array.getElem?_setIfInBounds_self_of_lt (by omega)
theorem cell_set_ne {w : World} {g2 : Nat} {C : Array Value} {t : TypeId} (h : w.heap[g2]? = some (.cells C t (0, 0))) (k j : Nat) (hk : k ≠ j) (u : Value) {x : Value} (hx : w.cell? ⟨g2, k, none⟩ = some x) : (w.setCell ⟨g2, j, none⟩ u).cell? ⟨g2, k, none⟩ = some x := by
  rw [blk_cell (blk_set h j u), Array.getElem?_setIfInBounds_ne (by omega), ← blk_cell h]
  exact hx
theorem rl_of {w : World} {g2 n bz : Nat} {v6 v10 : Value} {m1 m2 : List Int} (hg : ∃ C, w.heap[g2]? = some (.cells C 46 (0, 0)) ∧ C.size = 4 ∧ C[0]? = some (.int .i64 (n : Int)))
    (h1 : w.cell? ⟨g2, 1, none⟩ = some v6) (h2 : w.cell? ⟨g2, 2, none⟩ = some v10) (h3 : w.cell? ⟨g2, 3, none⟩ = some (.slice none 0 0)) (f1 : Fresh w bz v6 m1) (f2 : Fresh w bz v10 m2) (hlt : g2 < bz) (hbz : bz ≤ w.heap.size) : Rl w g2 n m1 m2 [] w.heap.size := by
  obtain ⟨C, hC, hs, h0⟩ := hg
  rw [blk_cell hC] at h1 h2 h3
  obtain ⟨A1, c1, rfl, r1⟩ := f1.row hlt
  obtain ⟨A2, c2, rfl, r2⟩ := f2.row hlt
  have e : C = #[.int .i64 (n : Int), .slice A1 m1.length c1, .slice A2 m2.length c2, .slice none 0 0] := by
    apply Array.ext_getElem?
    intro i
    match i with
    | 0 => exact h0
    | 1 => exact h1
    | 2 => exact h2
    | 3 => exact h3
    | i + 4 => rw [Array.getElem?_eq_none (by omega), Array.getElem?_eq_none (by simp)]
  subst e
  exact ⟨⟨A1, c1, A2, c2, _, hC, r1, r2, own_nil _ _ _ _⟩, by omega, Nat.le_refl _⟩
theorem few_at {l : List Lop} {k : Nat} (h : fewB l = true) (hk : k < l.length) : fewOne (l.getD k (0, [], [])) = true := by
  unfold fewB at h
  rw [Bool.and_eq_true, List.all_eq_true] at h
  exact h.2 _ (by rw [List.getD_eq_getElem?_getD, List.getElem?_eq_getElem hk]; exact List.getElem_mem hk)
theorem setF_none : setF [] = none_ := by funext j; simp [setF, none_]
def PlaysRel (w : World) (g g2 n len : Nat) (i : Value) (wr : World) : Prop :=
  ∃ (k : Nat) (O N T : List Int) (b : Nat), k ≤ len ∧ i = .int .i64 (k : Int) ∧ T.length ≤ k ∧ Lg wr g n (setF O) (setF N) (setF T) ∧ Rl wr g2 n O N T b ∧ Below w.heap.size w wr
def CutRel (w : World) (g g2 n k : Nat) (wr : World) : Prop :=
  ∃ (O N T : List Int) (b : Nat), T.length ≤ k + 1 ∧ Lg wr g n (setF O) (setF N) (setF T) ∧ Rl wr g2 n O N T b ∧ Below w.heap.size w wr
def InnerRel (n : Nat) (i : Value) : Prop := i = .int .i64 (-1) ∨ ∃ k : Nat, k ≤ n + 1 ∧ i = .int .i64 (k : Int)
def plays_T : Bool × List (List Nat × List Nat) := (true, [([], []), ([], []), ([], []), ([], []), ([], []), ([4], [4]), ([3, 5], [3, 5]), ([], []), ([], []), ([8], [8]), ([7, 9, 6], [7, 9]), ([0, 0, 3, 4, 5, 6, 10], [0]), ([11, 0, 3, 4, 5, 6, 10], [11]), ([12, 6, 10, 0, 3, 4, 5, 6, 10], [6, 12]), ([1, 0, 1, 3, 4, 5, 6, 7, 8, 9, 10, 11, 12, 13], [1]), ([14, 0, 1, 3, 4, 5, 6, 7, 8, 9, 10, 11, 12, 13], [14]), ([15, 10, 13, 0, 1, 3, 4, 5, 6, 7, 8, 9, 10, 11, 12, 13], [10, 15]), ([2, 0, 1, 2, 3, 4, 5, 6, 7, 8, 9, 10, 11, 12, 13, 14, 15, 16], [2]), ([17, 0, 1, 2, 3, 4, 5, 6, 7, 8, 9, 10, 11, 12, 13, 14, 15, 16], [17]), ([18, 16, 0, 1, 2, 3, 4, 5, 6, 7, 8, 9, 10, 11, 12, 13, 14, 15, 16], [18])])
def plays_B : List Nat := [0, 0, 0, 0, 0, 16, 56, 0, 0, 256, 1016, 2041, 4089, 8185, 16379, 32763, 65531, 131071, 262143, 524287]
theorem plays_tab : rtab .any (opsOf Try.f6 25) = plays_T := by kernel_rfl
theorem plays_bits : waitsOk plays_T.2 plays_B = true := by kernel_rfl
set_option maxHeartbeats 8000000 in
set_option maxRecDepth 100000 in
theorem plays_walk (p : Int) {w : World} {A : Option Addr} {c : Nat} {l : List Lop} (hp : 0 ≤ p ∧ p ≤ 255) (hC : Kd.C kLop w A l.length l) (hl : l.length ≤ 140737488355328) (hF : ∀ x ∈ l, FO x) :
    Calls Try.prog 6 #[.int .u8 p, .slice A l.length c] w fun e w' => e = .returned (.bool true) ∧ Below w.heap.size w w' := by
  have HC := Aside0.mk hC
  have HF := Aside0.mk hF
  clear hC hF
  cases hfew : fewB l
  · go_enter Try.func6, Try.ntmps6
    go_wp2_with (first | (go_at_call 8; have _q := HW2; refine (awake_true _).mono ?_; rintro e w3 ⟨rfl, hb⟩; have HW3 := Aside0.mk (below_step HW2.out hb); clear hb) | (go_at_call 8; refine (awake_true _).mono ?_; rintro e w1 ⟨rfl, hb⟩; have HW1 := Aside0.mk hb; clear hb) | (go_at_call 16; refine (few_any (Kd.C_below HC.out HW1.out) hl HF.out).mono ?_; rintro e w2 ⟨rfl, hb⟩; rw [hfew]; have HW2 := Aside0.mk (below_step HW1.out hb); clear hb))
    go_ret
    exact ⟨rfl, HW3.out⟩
  · obtain ⟨n, hpn, hn⟩ : ∃ n : Nat, p % 40 = (n : Int) ∧ n ≤ 512 := ⟨(p % 40).toNat, by omega, by omega⟩
    have HN := Aside0.mk (fun W => new_any (n : Int) W n (Or.inr (Or.inr ⟨rfl, hn⟩)))
    have HRN := Aside0.mk (fun W => Rnew_any n W hn)
    have hlen : l.length ≤ 150 := by
      unfold fewB at hfew
      rw [Bool.and_eq_true] at hfew
      exact of_decide_eq_true hfew.1
    go_enter Try.func6, Try.ntmps6
    go_wp2_with (first | (go_at_call 8; refine (awake_true _).mono ?_; rintro e w1 ⟨rfl, hb⟩; have HW1 := Aside0.mk hb; clear hb) | (go_at_call 16; refine (few_any (Kd.C_below HC.out HW1.out) hl HF.out).mono ?_; rintro e w2 ⟨rfl, hb⟩; rw [hfew]; have HW2 := Aside0.mk (below_step HW1.out hb); clear hb) | (go_at_call 9; refine (HN.out _).mono ?_; rintro e w3 ⟨rfl, hb, hg⟩; have HW3 := Aside0.mk (below_step HW2.out hb); have HL3 := Aside0.mk hg; have HG := Aside0.mk HW2.out.size; have HG12 := Aside0.mk hg.lt; clear hb hg) | (go_at_call 17; refine (HRN.out _).mono ?_; rintro e w4 ⟨rfl, hb, hr⟩; have HW4 := Aside0.mk (below_step HW3.out hb); have HL4 := Aside0.mk (HL3.out.below hb); have HR4 := Aside0.mk hr; have HG2 := Aside0.mk HW3.out.size; clear hb hr))
    generalize w2.heap.size = g at HG HG12 HL3 HL4
    generalize w3.heap.size = g2 at HG12 HR4 HG2
    go_loopw [35] (fun i wr => PlaysRel w g g2 n l.length i wr) (fun i _ => l.length - (intOf i).toNat)
    case atStart => exact ⟨0, [], [], [], _, Nat.zero_le _, rfl, Nat.le_refl _, by rw [setF_none]; exact HL4.out, HR4.out, HW4.out⟩
    case round =>
      obtain ⟨k, O, N, T, b, hk, rfl, hT, hL, hR, hB⟩ := hrel
      by_cases hlt : k < l.length
      · obtain ⟨ad, A1, c1, A2, c2, rfl, hc0, hc1, hc2, hC1, hC2, hq1, hq2⟩ := lop_cells HC.out hlt
        have hfo := few_at hfew hlt
        replace hc0 := pw_cell_below hB hc0
        replace hc1 := pw_cell_below hB hc1
        replace hc2 := pw_cell_below hB hc2
        generalize l.getD k (0, [], []) = op at hc0 hc1 hc2 hC1 hC2 hfo hq1 hq2
        obtain ⟨ka, m1, m2⟩ := op
        simp only [fewOne] at hc0 hc1 hc2 hC1 hC2 hfo
        have hm := of_decide_eq_true hfo
        have HA1 := Aside0.mk hC1
        have HA2 := Aside0.mk hC2
        have HM1 : Aside0 (m1.length ≤ 1000) := ⟨by omega⟩
        have HM2 : Aside0 (m2.length ≤ 1000) := ⟨by omega⟩
        have hT2 : T.length ≤ 1000 := by omega
        have hq1 := hB.size
        have HB1 : Aside0 (Below w.heap.size w (wr.alloc (.cells #[.int .i64 ka, .slice A1 m1.length c1, .slice A2 m2.length c2] 42))) := ⟨below_alloc hB _⟩
        have HL1 : Aside0 (Lg (wr.alloc (.cells #[.int .i64 ka, .slice A1 m1.length c1, .slice A2 m2.length c2] 42)) g n (setF O) (setF N) (setF T)) := ⟨hL.below (below_alloc (Below.refl _ _) _)⟩
        have HR1 : Aside0 (Rl (wr.alloc (.cells #[.int .i64 ka, .slice A1 m1.length c1, .slice A2 m2.length c2] 42)) g2 n O N T b) := ⟨hR.below (below_alloc (Below.refl _ _) _)⟩
        have HCP1 : Aside0 (Cp #[.int .i64 ka, .slice A1 m1.length c1, .slice A2 m2.length c2] wr.heap.size (wr.alloc (.cells #[.int .i64 ka, .slice A1 m1.length c1, .slice A2 m2.length c2] 42))) := ⟨⟨blk_new _ _⟩⟩
        have HQ1 : Aside0 (wr.heap.size ≠ g) := ⟨by have := hL.lt; omega⟩
        have HQ2 : Aside0 (wr.heap.size ≠ g2) := ⟨by have := hR.lt; have := hR.bs; omega⟩
        clear hC1 hC2 hfo hL hR hB
        go_upto_block 2 with fail
        go_cut [10, 11, 12, 13, 35] (fun _ _ _ _ i wc => i = .int .i64 (k : Int) ∧ CutRel w g g2 n k wc)
        case first =>
          by_cases k1 : ka = 1
          · have z1 : (ka == 1) = true := beq_iff_eq.2 k1
            clear k1
            have HT : Aside0 (Calls Try.prog 14 #[.pointer (some ⟨g, 0, none⟩)] (wr.alloc (.cells #[.int .i64 ka, .slice A1 m1.length c1, .slice A2 m2.length c2] 42)) fun e w' => e = .returned (.tuple #[.int .i64 (tk (takeF (useS O N T) n)), .int .i64 (te (takeF (useS O N T) n))]) ∧ Only (wr.alloc (.cells #[.int .i64 ka, .slice A1 m1.length c1, .slice A2 m2.length c2] 42)) w' g ∧ Lg w' g n (setF O) (setF N) (setF (tL T (takeF (useS O N T) n)))) := ⟨by have := take_any HL1.out; unfold TakeOut at this; rw [← tL_marks] at this; exact this⟩
            have HRT : Aside0 (∀ W, Rl W g2 n O N T b → Calls Try.prog 18 #[.pointer (some ⟨g2, 0, none⟩)] W fun e w' => e = .returned (.tuple #[.int .i64 (tk (takeF (useS O N T) n)), .int .i64 (te (takeF (useS O N T) n))]) ∧ Ref W w' g2 b ∧ Rl w' g2 n O N (tL T (takeF (useS O N T) n)) b) := ⟨fun W h => by have := Rtake_any h hn hT2; unfold TakeOutR at this; exact this⟩
            have hTL : (tL T (takeF (useS O N T) n)).length ≤ k + 1 := by
              cases takeF (useS O N T) n with
              | none => exact Nat.le_succ_of_le hT
              | some y => simp only [tL, List.length_append, List.length_singleton]; omega
            generalize tk (takeF (useS O N T) n) = X1 at HT HRT
            generalize te (takeF (useS O N T) n) = X2 at HT HRT
            generalize tL T (takeF (useS O N T) n) = T2 at HT HRT hTL
            have y1 : (X1 != X1) = false := by simp
            have y2 : (X2 != X2) = false := by simp
            go_wp2_with (first | (go_at_call 14; refine HT.out.mono ?_; rintro e w7 ⟨rfl, ho, hg⟩; have HL7 := Aside0.mk hg; have HR7 := Aside0.mk (HR1.out.other ho HG12.out); have HB7 := Aside0.mk (ho.below HB1.out HG.out HB1.out.size); clear ho hg) | (go_at_call 18; refine (HRT.out _ HR7.out).mono ?_; rintro e wz ⟨rfl, ho, hr⟩; have HLz := Aside0.mk (HL7.out.ref ho HG12.out hr.lt); have HBz := Aside0.mk (ho.below HB7.out HG2.out hr.lt); have HRz := Aside0.mk hr; clear ho hr))
            go_meet
            case rel => exact ⟨rfl, O, N, T2, b, hTL, HLz.out, HRz.out, HBz.out⟩
          by_cases k2 : ka = 2
          · have z1 : (ka == 1) = false := beq_eq_false_iff_ne.2 k1
            have z2 : (ka == 2) = true := beq_iff_eq.2 k2
            clear k1 k2
            go_wp2_with (first | (go_at_call 10; refine (commit_any (c := c1) HL1.out (Kd.C_below HA1.out HB1.out) (by have := HM1.out; omega)).mono ?_; rintro e w7 ⟨rfl, ho, hg⟩; have HL7 := Aside0.mk hg; have HR7 := Aside0.mk ((HR1.out.other ho HG12.out).below (below_alloc (Below.refl _ _) (.cells #[] 3))); have HB7 := Aside0.mk (ho.below HB1.out HG.out HB1.out.size); have HQG : Aside0 (g2 < w7.heap.size) := ⟨by have := HR1.out.lt; have := HR1.out.bs; have := ho.size; omega⟩; obtain ⟨_, hd1, _⟩ := ((HCP1.out.only ho HQ1.out).below (below_alloc (Below.refl _ _) (.cells #[] 3))).three; clear ho hg) | (at_builtin; refine wp_copy (g0 := w7.heap.size) (c := c1) rfl _ _ 22 3 rfl Try.underlying22 info_int (alloc_lt _ _) rfl rfl (Kd.C_below HA1.out (below_alloc HB7.out _)) HM1.out ?_; intro v8 w8 hb hf; have hlt7 := HQG.out; obtain ⟨A8, c8, rfl, hrow⟩ := hf.row hlt7; have HR8 := Aside0.mk (HR7.out.below hb); have HB8 := Aside0.mk (below_step (below_alloc HB7.out (.cells #[] 3)) hb); have HL8 := Aside0.mk ((HL7.out.below (below_alloc (Below.refl _ _) (.cells #[] 3))).below hb); have HW8 := Aside0.mk hrow; clear hb hf hrow) | (go_at_call 19; refine (Rcommit_any HR8.out HW8.out HR8.out.bs (Nat.le_refl _)).mono ?_; rintro e wz ⟨rfl, ho, hr⟩; have HLz : Aside0 (Lg wz g n (setF N) (setF m1) (setF [])) := ⟨by rw [setF_none]; exact HL8.out.other ho (by have := HG12.out; omega)⟩; have HBz := Aside0.mk (ho.below HB8.out HG2.out HB8.out.size); have HRz := Aside0.mk hr; clear ho hr))
            go_meet
            case rel => exact ⟨rfl, N, m1, [], _, by simp, HLz.out, HRz.out, HBz.out⟩
          by_cases k3 : ka = 3
          · have z1 : (ka == 1) = false := beq_eq_false_iff_ne.2 k1
            have z2 : (ka == 2) = false := beq_eq_false_iff_ne.2 k2
            have z3 : (ka == 3) = true := beq_iff_eq.2 k3
            clear k1 k2 k3
            go_wp2_with (first | (go_at_call 15; refine (abort_any HL1.out).mono ?_; rintro e w7 ⟨rfl, ho, hg⟩; have HL7 := Aside0.mk hg; have HR7 := Aside0.mk (HR1.out.other ho HG12.out); have HB7 := Aside0.mk (ho.below HB1.out HG.out HB1.out.size); clear ho hg) | (go_at_call 20; refine (Rabort_any HR7.out).mono ?_; rintro e wz ⟨rfl, ho, hr⟩; have HLz : Aside0 (Lg wz g n (setF O) (setF N) (setF [])) := ⟨by rw [setF_none]; exact HL7.out.other ho (by have := HG12.out; omega)⟩; have HBz := Aside0.mk (ho.below HB7.out HG2.out HB7.out.size); have HRz := Aside0.mk hr; clear ho hr))
            go_meet
            case rel => exact ⟨rfl, O, N, [], b, by simp, HLz.out, HRz.out, HBz.out⟩
          by_cases k4 : ka = 4
          · have z1 : (ka == 1) = false := beq_eq_false_iff_ne.2 k1
            have z2 : (ka == 2) = false := beq_eq_false_iff_ne.2 k2
            have z3 : (ka == 3) = false := beq_eq_false_iff_ne.2 k3
            have z4 : (ka == 4) = true := beq_iff_eq.2 k4
            clear k1 k2 k3 k4
            go_wp2_with (go_at_call 13; refine (reset_any (c := c1) (d := c2) HL1.out (Kd.C_below HA1.out HB1.out) (Kd.C_below HA2.out HB1.out) (by have := HM1.out; omega) (by have := HM2.out; omega)).mono ?_; rintro e w7 ⟨rfl, ho, hg⟩; have HLG := Aside0.mk (hg.below (below_drew (Below.refl _ _))); have HRB : Aside0 (∃ C, w7.drew.heap[g2]? = some (.cells C 46 (0, 0)) ∧ C.size = 4 ∧ C[0]? = some (.int .i64 (n : Int))) := ⟨by obtain ⟨⟨_, _, _, _, _, hh, _⟩, _, _⟩ := (HR1.out.other ho HG12.out).below (below_drew (Below.refl _ _)); exact ⟨_, hh, rfl, rfl⟩⟩; have HB := Aside0.mk (below_drew (ho.below HB1.out HG.out HB1.out.size)); have HCP := Aside0.mk ((HCP1.out.only ho HQ1.out).below (below_drew (Below.refl _ _))); have LT : Aside0 (w7.heap.size ≤ w7.drew.heap.size) := ⟨(below_drew (Below.refl w7.heap.size w7)).size⟩; have HQG : Aside0 (g2 < w7.heap.size) := ⟨by have := HR1.out.lt; have := HR1.out.bs; have := ho.size; omega⟩; clear ho hg)
            refine start_ (n := 20) (S := fun _ => True) (ds := []) #[false, false, false, false, false, false, false, false, false, false, false, false, false, false, false, false, false, false, false, false] (by kernel_rfl) rfl rfl trivial (fun hHeld => ?_)
            clear hHeld
            refine with_tabW plays_tab plays_bits (fun HT_ HW_ => ?_)
            refine pure_ (i := 0) (N := (some 90)) (v := ?_) (a' := ?_) #[true, false, false, false, false, false, false, false, false, false, false, false, false, false, false, false, false, false, false, false] rfl rfl (any_of HT_.out (by kernel_rfl)) (fun _ _ _ h => h) (Or.inl ⟨by rfl, ?_⟩) ?_ ?_
            rotate_left
            · intro w'
              go_simp
              with_reducible rfl
            rotate_left
            · simp only [Act.put, List.setIfInBounds_toArray, List.set_cons_zero, List.set_cons_succ, i64_w, i32_w]
              rfl
            refine pure_ (i := 1) (N := (some 91)) (v := ?_) (a' := ?_) #[true, true, false, false, false, false, false, false, false, false, false, false, false, false, false, false, false, false, false, false] rfl rfl (any_of HT_.out (by kernel_rfl)) (fun _ _ _ h => h) (Or.inl ⟨by rfl, ?_⟩) ?_ ?_
            rotate_left
            · intro w'
              go_simp
              with_reducible rfl
            rotate_left
            · simp only [Act.put, List.setIfInBounds_toArray, List.set_cons_zero, List.set_cons_succ, i64_w, i32_w]
              rfl
            refine pure_ (i := 2) (N := (some 92)) (v := ?_) (a' := ?_) #[true, true, true, false, false, false, false, false, false, false, false, false, false, false, false, false, false, false, false, false] rfl rfl (any_of HT_.out (by kernel_rfl)) (fun _ _ _ h => h) (Or.inl ⟨by rfl, ?_⟩) ?_ ?_
            rotate_left
            · intro w'
              go_simp
              with_reducible rfl
            rotate_left
            · simp only [Act.put, List.setIfInBounds_toArray, List.set_cons_zero, List.set_cons_succ, i64_w, i32_w]
              rfl
            refine pure_ (i := 4) (N := (some 94)) (v := ?_) (a' := ?_) #[true, true, true, false, true, false, false, false, false, false, false, false, false, false, false, false, false, false, false, false] rfl rfl (any_of HT_.out (by kernel_rfl)) (fun _ _ _ h => h) (Or.inl ⟨by rfl, ?_⟩) ?_ ?_
            rotate_left
            · intro w'
              go_simp
              with_reducible rfl
            rotate_left
            · simp only [Act.put, List.setIfInBounds_toArray, List.set_cons_zero, List.set_cons_succ, i64_w, i32_w]
              rfl
            refine pure_ (i := 8) (N := (some 98)) (v := ?_) (a' := ?_) #[true, true, true, false, true, false, false, false, true, false, false, false, false, false, false, false, false, false, false, false] rfl rfl (any_of HT_.out (by kernel_rfl)) (fun _ _ _ h => h) (Or.inl ⟨by rfl, ?_⟩) ?_ ?_
            rotate_left
            · intro w'
              go_simp
              with_reducible rfl
            rotate_left
            · simp only [Act.put, List.setIfInBounds_toArray, List.set_cons_zero, List.set_cons_succ, i64_w, i32_w]
              rfl
            refine inv_at [3, 5, 6, 7, 9, 10, 11, 12, 13, 14, 15, 16, 17, 18, 19] (fun a0_ b a w' => ∃ (v3 : Value) (v6 : Value) (v7 : Value) (v10 : Value), a = putSel a0_ b [(3, 93, v3), (5, 95, .slice A1 m1.length c1), (6, 96, v6), (7, 97, v7), (9, 99, .slice A2 m2.length c2), (10, 100, v10), (11, 101, .pointer (some ⟨g2, 0, none⟩)), (12, 102, .pointer (some ⟨g2, 1, none⟩)), (14, 103, .pointer (some ⟨g2, 0, none⟩)), (15, 104, .pointer (some ⟨g2, 2, none⟩)), (17, 105, .pointer (some ⟨g2, 0, none⟩)), (18, 106, .pointer (some ⟨g2, 3, none⟩))] ∧ (Below w.heap.size w w') ∧ (w7.heap.size ≤ w'.heap.size) ∧ (Cp #[.int .i64 ka, .slice A1 m1.length c1, .slice A2 m2.length c2] wr.heap.size w') ∧ (Lg w' g n (setF m1) (setF m2) none_) ∧ (∃ C, w'.heap[g2]? = some (.cells C 46 (0, 0)) ∧ C.size = 4 ∧ C[0]? = some (.int .i64 (n : Int))) ∧ (b 3 = true → Lies w' w7.heap.size v3) ∧ (b 7 = true → Lies w' w7.heap.size v7) ∧ (b 6 = true → Fresh w' w7.heap.size v6 m1) ∧ (b 10 = true → Fresh w' w7.heap.size v10 m2) ∧ (b 13 = true → w'.cell? ⟨g2, 1, none⟩ = some v6) ∧ (b 16 = true → w'.cell? ⟨g2, 2, none⟩ = some v10) ∧ (b 19 = true → w'.cell? ⟨g2, 3, none⟩ = some (.slice none 0 0))) HT_.out HW_.out (by kernel_rfl) (by kernel_rfl) ?_ ?_ ?_
            · exact ⟨.bool false, .bool false, .bool false, .bool false, by simp only [putSel, Bool.false_eq_true, if_false], HB.out, LT.out, HCP.out, HLG.out, HRB.out, fun h_ => absurd h_ (by decide), fun h_ => absurd h_ (by decide), fun h_ => absurd h_ (by decide), fun h_ => absurd h_ (by decide), fun h_ => absurd h_ (by decide), fun h_ => absurd h_ (by decide), fun h_ => absurd h_ (by decide)⟩
            · skip
              refine steps_cons ?_ ?_
              · rintro b a w' ⟨v3, v6, v7, v10, ha, Q_HB, Q_LT, Q_HCP, Q_HLG, Q_HRB, Q_S3, Q_S7, Q_F6, Q_F10, Q_H13, Q_H16, Q_H19⟩ hb_ hon hoff
                refine ⟨_, rfl, fun K hK => ?_⟩
                replace ha := Aside0.mk ha
                have hb : Below w'.heap.size w' (w'.alloc (.cells #[] 3)) := below_alloc (Below.refl _ _) _
                have hsz := (Nat.le_of_lt (alloc_lt w' 3))
                refine value_ (w1 := w'.alloc (.cells #[] 3)) (v := .slice (some ⟨w'.heap.size, 0, none⟩) 0 0) (by rfl) rfl ?_ ?_
                · go_simp
                  try rfl
                refine hK.out _ _ ⟨_, v6, v7, v10, (by rw [ha.out]; exact putSel_upk 0 hb_ rfl rfl rfl), below_step Q_HB hb, Nat.le_trans Q_LT hsz, Q_HCP.below hb, Q_HLG.below hb, (blk_below_ex Q_HRB hb), fun _ => ⟨_, rfl, Q_LT, alloc_lt _ _⟩, fun h_ => lies_below (Q_S7 h_) hsz, fun h_ => (Q_F6 h_).below hb, fun h_ => (Q_F10 h_).below hb, fun h0_ => absurd ((hoff 13 (by kernel_rfl)).symm.trans h0_) (by decide), fun h0_ => absurd ((hoff 16 (by kernel_rfl)).symm.trans h0_) (by decide), fun h0_ => absurd ((hoff 19 (by kernel_rfl)).symm.trans h0_) (by decide)⟩
              refine steps_cons ?_ ?_
              · rintro b a w' ⟨v3, v6, v7, v10, ha, Q_HB, Q_LT, Q_HCP, Q_HLG, Q_HRB, Q_S3, Q_S7, Q_F6, Q_F10, Q_H13, Q_H16, Q_H19⟩ hb_ hon hoff
                refine ⟨_, rfl, fun K hK => ?_⟩
                have e94 : a.tmps[94]? = some (.pointer (some ⟨wr.heap.size, 1, none⟩)) := by rw [ha]; exact (putSel_off rfl).trans rfl
                replace ha := Aside0.mk ha
                have hcell := Q_HCP.three.2.1
                refine value_ (w1 := w') (v := .slice A1 m1.length c1) (by rfl) rfl ?_ ?_
                · go_simp
                  try rfl
                refine hK.out _ _ ⟨v3, v6, v7, v10, (by rw [ha.out]; exact putSel_upk 1 hb_ rfl rfl rfl), Q_HB, Q_LT, Q_HCP, Q_HLG, Q_HRB, Q_S3, Q_S7, fun h0_ => absurd ((hoff 6 (by kernel_rfl)).symm.trans h0_) (by decide), fun h0_ => absurd ((hoff 10 (by kernel_rfl)).symm.trans h0_) (by decide), fun h0_ => absurd ((hoff 13 (by kernel_rfl)).symm.trans h0_) (by decide), fun h0_ => absurd ((hoff 16 (by kernel_rfl)).symm.trans h0_) (by decide), fun h0_ => absurd ((hoff 19 (by kernel_rfl)).symm.trans h0_) (by decide)⟩
              refine steps_cons ?_ ?_
              · rintro b a w' ⟨v3, v6, v7, v10, ha, Q_HB, Q_LT, Q_HCP, Q_HLG, Q_HRB, Q_S3, Q_S7, Q_F6, Q_F10, Q_H13, Q_H16, Q_H19⟩ hb_ hon hoff
                refine ⟨_, rfl, fun K hK => ?_⟩
                have e93 : a.tmps[93]? = some (v3) := by rw [ha]; exact putSel_on (e := (3, 93, v3)) 0 rfl rfl (hon 3 (by kernel_rfl)) rfl
                have e95 : a.tmps[95]? = some (.slice A1 m1.length c1) := by rw [ha]; exact putSel_on (e := (5, 95, .slice A1 m1.length c1)) 1 rfl rfl (hon 5 (by kernel_rfl)) rfl
                replace ha := Aside0.mk ha
                obtain ⟨g0, hv, hg0, hgl⟩ := (Q_S3 (hon 3 (by kernel_rfl)))
                subst hv
                obtain ⟨x, w1, hr, hb, hf⟩ := run_copy (t := 22) (e := 3) (ty := 22) (c := c1) Try.underlying22 info_int hgl (Kd.C_below HA1.out Q_HB) HM1.out
                refine value_ (w1 := w1) (v := x) (by rfl) rfl (run_copy_op _ _ 22 rfl (eval_of e93) (eval_of e95) hr) ?_
                refine hK.out _ _ ⟨(.slice (some ⟨g0, 0, none⟩) 0 0), x, v7, v10, (by rw [ha.out]; exact putSel_upk 2 hb_ rfl rfl rfl), below_step Q_HB hb, Nat.le_trans Q_LT hb.size, Q_HCP.below hb, Q_HLG.below hb, (blk_below_ex Q_HRB hb), fun _ => ⟨g0, rfl, hg0, Nat.lt_of_lt_of_le hgl hb.size⟩, fun h_ => lies_below (Q_S7 h_) hb.size, fun _ => hf.from hg0, fun h_ => (Q_F10 h_).below hb, fun h0_ => absurd ((hoff 13 (by kernel_rfl)).symm.trans h0_) (by decide), fun h0_ => absurd ((hoff 16 (by kernel_rfl)).symm.trans h0_) (by decide), fun h0_ => absurd ((hoff 19 (by kernel_rfl)).symm.trans h0_) (by decide)⟩
              refine steps_cons ?_ ?_
              · rintro b a w' ⟨v3, v6, v7, v10, ha, Q_HB, Q_LT, Q_HCP, Q_HLG, Q_HRB, Q_S3, Q_S7, Q_F6, Q_F10, Q_H13, Q_H16, Q_H19⟩ hb_ hon hoff
                refine ⟨_, rfl, fun K hK => ?_⟩
                replace ha := Aside0.mk ha
                have hb : Below w'.heap.size w' (w'.alloc (.cells #[] 3)) := below_alloc (Below.refl _ _) _
                have hsz := (Nat.le_of_lt (alloc_lt w' 3))
                refine value_ (w1 := w'.alloc (.cells #[] 3)) (v := .slice (some ⟨w'.heap.size, 0, none⟩) 0 0) (by rfl) rfl ?_ ?_
                · go_simp
                  try rfl
                refine hK.out _ _ ⟨v3, v6, _, v10, (by rw [ha.out]; exact putSel_upk 3 hb_ rfl rfl rfl), below_step Q_HB hb, Nat.le_trans Q_LT hsz, Q_HCP.below hb, Q_HLG.below hb, (blk_below_ex Q_HRB hb), fun h_ => lies_below (Q_S3 h_) hsz, fun _ => ⟨_, rfl, Q_LT, alloc_lt _ _⟩, fun h_ => (Q_F6 h_).below hb, fun h_ => (Q_F10 h_).below hb, fun h0_ => absurd ((hoff 13 (by kernel_rfl)).symm.trans h0_) (by decide), fun h0_ => absurd ((hoff 16 (by kernel_rfl)).symm.trans h0_) (by decide), fun h0_ => absurd ((hoff 19 (by kernel_rfl)).symm.trans h0_) (by decide)⟩
              refine steps_cons ?_ ?_
              · rintro b a w' ⟨v3, v6, v7, v10, ha, Q_HB, Q_LT, Q_HCP, Q_HLG, Q_HRB, Q_S3, Q_S7, Q_F6, Q_F10, Q_H13, Q_H16, Q_H19⟩ hb_ hon hoff
                refine ⟨_, rfl, fun K hK => ?_⟩
                have e98 : a.tmps[98]? = some (.pointer (some ⟨wr.heap.size, 2, none⟩)) := by rw [ha]; exact (putSel_off rfl).trans rfl
                replace ha := Aside0.mk ha
                have hcell := Q_HCP.three.2.2
                refine value_ (w1 := w') (v := .slice A2 m2.length c2) (by rfl) rfl ?_ ?_
                · go_simp
                  try rfl
                refine hK.out _ _ ⟨v3, v6, v7, v10, (by rw [ha.out]; exact putSel_upk 4 hb_ rfl rfl rfl), Q_HB, Q_LT, Q_HCP, Q_HLG, Q_HRB, Q_S3, Q_S7, Q_F6, fun h0_ => absurd ((hoff 10 (by kernel_rfl)).symm.trans h0_) (by decide), fun h0_ => absurd ((hoff 13 (by kernel_rfl)).symm.trans h0_) (by decide), fun h0_ => absurd ((hoff 16 (by kernel_rfl)).symm.trans h0_) (by decide), fun h0_ => absurd ((hoff 19 (by kernel_rfl)).symm.trans h0_) (by decide)⟩
              refine steps_cons ?_ ?_
              · rintro b a w' ⟨v3, v6, v7, v10, ha, Q_HB, Q_LT, Q_HCP, Q_HLG, Q_HRB, Q_S3, Q_S7, Q_F6, Q_F10, Q_H13, Q_H16, Q_H19⟩ hb_ hon hoff
                refine ⟨_, rfl, fun K hK => ?_⟩
                have e97 : a.tmps[97]? = some (v7) := by rw [ha]; exact putSel_on (e := (7, 97, v7)) 3 rfl rfl (hon 7 (by kernel_rfl)) rfl
                have e99 : a.tmps[99]? = some (.slice A2 m2.length c2) := by rw [ha]; exact putSel_on (e := (9, 99, .slice A2 m2.length c2)) 4 rfl rfl (hon 9 (by kernel_rfl)) rfl
                replace ha := Aside0.mk ha
                obtain ⟨g0, hv, hg0, hgl⟩ := (Q_S7 (hon 7 (by kernel_rfl)))
                subst hv
                obtain ⟨x, w1, hr, hb, hf⟩ := run_copy (t := 22) (e := 3) (ty := 22) (c := c2) Try.underlying22 info_int hgl (Kd.C_below HA2.out Q_HB) HM2.out
                refine value_ (w1 := w1) (v := x) (by rfl) rfl (run_copy_op _ _ 22 rfl (eval_of e97) (eval_of e99) hr) ?_
                refine hK.out _ _ ⟨v3, v6, (.slice (some ⟨g0, 0, none⟩) 0 0), x, (by rw [ha.out]; exact putSel_upk 5 hb_ rfl rfl rfl), below_step Q_HB hb, Nat.le_trans Q_LT hb.size, Q_HCP.below hb, Q_HLG.below hb, (blk_below_ex Q_HRB hb), fun h_ => lies_below (Q_S3 h_) hb.size, fun _ => ⟨g0, rfl, hg0, Nat.lt_of_lt_of_le hgl hb.size⟩, fun h_ => (Q_F6 h_).below hb, fun _ => hf.from hg0, fun h0_ => absurd ((hoff 13 (by kernel_rfl)).symm.trans h0_) (by decide), fun h0_ => absurd ((hoff 16 (by kernel_rfl)).symm.trans h0_) (by decide), fun h0_ => absurd ((hoff 19 (by kernel_rfl)).symm.trans h0_) (by decide)⟩
              refine steps_cons ?_ ?_
              · rintro b a w' ⟨v3, v6, v7, v10, ha, Q_HB, Q_LT, Q_HCP, Q_HLG, Q_HRB, Q_S3, Q_S7, Q_F6, Q_F10, Q_H13, Q_H16, Q_H19⟩ hb_ hon hoff
                refine ⟨_, rfl, fun K hK => ?_⟩
                have e90 : a.tmps[90]? = some (.pointer (some ⟨g2, 0, none⟩)) := by rw [ha]; exact (putSel_off rfl).trans rfl
                replace ha := Aside0.mk ha
                refine value_ (w1 := w') (v := .pointer (some ⟨g2, 0, none⟩)) (by rfl) rfl ?_ ?_
                · go_simp
                  try rfl
                refine hK.out _ _ ⟨v3, v6, v7, v10, (by rw [ha.out]; exact putSel_upk 6 hb_ rfl rfl rfl), Q_HB, Q_LT, Q_HCP, Q_HLG, Q_HRB, Q_S3, Q_S7, Q_F6, Q_F10, fun h0_ => absurd ((hoff 13 (by kernel_rfl)).symm.trans h0_) (by decide), fun h0_ => absurd ((hoff 16 (by kernel_rfl)).symm.trans h0_) (by decide), fun h0_ => absurd ((hoff 19 (by kernel_rfl)).symm.trans h0_) (by decide)⟩
              refine steps_cons ?_ ?_
              · rintro b a w' ⟨v3, v6, v7, v10, ha, Q_HB, Q_LT, Q_HCP, Q_HLG, Q_HRB, Q_S3, Q_S7, Q_F6, Q_F10, Q_H13, Q_H16, Q_H19⟩ hb_ hon hoff
                refine ⟨_, rfl, fun K hK => ?_⟩
                have e101 : a.tmps[101]? = some (.pointer (some ⟨g2, 0, none⟩)) := by rw [ha]; exact putSel_on (e := (11, 101, .pointer (some ⟨g2, 0, none⟩))) 6 rfl rfl (hon 11 (by kernel_rfl)) rfl
                replace ha := Aside0.mk ha
                refine value_ (w1 := w') (v := .pointer (some ⟨g2, 1, none⟩)) (by rfl) rfl ?_ ?_
                · go_simp
                  try rfl
                refine hK.out _ _ ⟨v3, v6, v7, v10, (by rw [ha.out]; exact putSel_upk 7 hb_ rfl rfl rfl), Q_HB, Q_LT, Q_HCP, Q_HLG, Q_HRB, Q_S3, Q_S7, Q_F6, Q_F10, fun h0_ => absurd ((hoff 13 (by kernel_rfl)).symm.trans h0_) (by decide), fun h0_ => absurd ((hoff 16 (by kernel_rfl)).symm.trans h0_) (by decide), fun h0_ => absurd ((hoff 19 (by kernel_rfl)).symm.trans h0_) (by decide)⟩
              refine steps_cons ?_ ?_
              · rintro b a w' ⟨v3, v6, v7, v10, ha, Q_HB, Q_LT, Q_HCP, Q_HLG, Q_HRB, Q_S3, Q_S7, Q_F6, Q_F10, Q_H13, Q_H16, Q_H19⟩ hb_ hon hoff
                refine ⟨_, rfl, fun K hK => ?_⟩
                have e102 : a.tmps[102]? = some (.pointer (some ⟨g2, 1, none⟩)) := by rw [ha]; exact putSel_on (e := (12, 102, .pointer (some ⟨g2, 1, none⟩))) 7 rfl rfl (hon 12 (by kernel_rfl)) rfl
                have e96 : a.tmps[96]? = some (v6) := by rw [ha]; exact putSel_on (e := (6, 96, v6)) 2 rfl rfl (hon 6 (by kernel_rfl)) rfl
                replace ha := Aside0.mk ha
                obtain ⟨X, cX, hX, hXC, hXa⟩ := (Q_F6 (hon 6 (by kernel_rfl)))
                subst hX
                obtain ⟨C, hC0, hC1, hC2⟩ := Q_HRB
                have hcell := blk_cell hC0 1
                have hfr := blk_frozen hC0 1
                obtain ⟨y, hy⟩ := cell_some hC1 1 (by omega)
                rw [hy] at hcell
                refine skip_ (w1 := w'.setCell ⟨g2, 1, none⟩ (.slice X m1.length cX)) (by rfl) rfl ?_ ?_
                · go_simp
                  try rfl
                refine hK.out _ _ ⟨v3, (.slice X m1.length cX), v7, v10, (by rw [ha.out]; exact putSel_none (v := undef) rfl), (((Only.refl _ _).set _ _).below Q_HB HG2.out Q_HB.size), Nat.le_trans Q_LT ((Only.refl _ g2).set _ _).size, (Q_HCP.only ((Only.refl _ _).set _ _) HQ2.out), (Q_HLG.other ((Only.refl _ _).set _ _) (by have := HG12.out; omega)), ⟨_, blk_set hC0 _ _, by rw [Array.size_setIfInBounds]; exact hC1, (Array.getElem?_setIfInBounds_ne (by omega)).trans hC2⟩, fun h_ => lies_below (Q_S3 h_) ((Only.refl _ g2).set _ _).size, fun h_ => lies_below (Q_S7 h_) ((Only.refl _ g2).set _ _).size, fun h_ => fresh_set (⟨X, cX, rfl, hXC, hXa⟩) _ _ HQG.out, fun h_ => fresh_set (Q_F10 h_) _ _ HQG.out, fun _ => cell_set hC0 hC1 1 (by omega) _, fun h0_ => absurd ((hoff 16 (by kernel_rfl)).symm.trans h0_) (by decide), fun h0_ => absurd ((hoff 19 (by kernel_rfl)).symm.trans h0_) (by decide)⟩
              refine steps_cons ?_ ?_
              · rintro b a w' ⟨v3, v6, v7, v10, ha, Q_HB, Q_LT, Q_HCP, Q_HLG, Q_HRB, Q_S3, Q_S7, Q_F6, Q_F10, Q_H13, Q_H16, Q_H19⟩ hb_ hon hoff
                refine ⟨_, rfl, fun K hK => ?_⟩
                have e91 : a.tmps[91]? = some (.pointer (some ⟨g2, 0, none⟩)) := by rw [ha]; exact (putSel_off rfl).trans rfl
                replace ha := Aside0.mk ha
                refine value_ (w1 := w') (v := .pointer (some ⟨g2, 0, none⟩)) (by rfl) rfl ?_ ?_
                · go_simp
                  try rfl
                refine hK.out _ _ ⟨v3, v6, v7, v10, (by rw [ha.out]; exact putSel_upk 8 hb_ rfl rfl rfl), Q_HB, Q_LT, Q_HCP, Q_HLG, Q_HRB, Q_S3, Q_S7, Q_F6, Q_F10, Q_H13, fun h0_ => absurd ((hoff 16 (by kernel_rfl)).symm.trans h0_) (by decide), fun h0_ => absurd ((hoff 19 (by kernel_rfl)).symm.trans h0_) (by decide)⟩
              refine steps_cons ?_ ?_
              · rintro b a w' ⟨v3, v6, v7, v10, ha, Q_HB, Q_LT, Q_HCP, Q_HLG, Q_HRB, Q_S3, Q_S7, Q_F6, Q_F10, Q_H13, Q_H16, Q_H19⟩ hb_ hon hoff
                refine ⟨_, rfl, fun K hK => ?_⟩
                have e103 : a.tmps[103]? = some (.pointer (some ⟨g2, 0, none⟩)) := by rw [ha]; exact putSel_on (e := (14, 103, .pointer (some ⟨g2, 0, none⟩))) 8 rfl rfl (hon 14 (by kernel_rfl)) rfl
                replace ha := Aside0.mk ha
                refine value_ (w1 := w') (v := .pointer (some ⟨g2, 2, none⟩)) (by rfl) rfl ?_ ?_
                · go_simp
                  try rfl
                refine hK.out _ _ ⟨v3, v6, v7, v10, (by rw [ha.out]; exact putSel_upk 9 hb_ rfl rfl rfl), Q_HB, Q_LT, Q_HCP, Q_HLG, Q_HRB, Q_S3, Q_S7, Q_F6, Q_F10, Q_H13, fun h0_ => absurd ((hoff 16 (by kernel_rfl)).symm.trans h0_) (by decide), fun h0_ => absurd ((hoff 19 (by kernel_rfl)).symm.trans h0_) (by decide)⟩
              refine steps_cons ?_ ?_
              · rintro b a w' ⟨v3, v6, v7, v10, ha, Q_HB, Q_LT, Q_HCP, Q_HLG, Q_HRB, Q_S3, Q_S7, Q_F6, Q_F10, Q_H13, Q_H16, Q_H19⟩ hb_ hon hoff
                refine ⟨_, rfl, fun K hK => ?_⟩
                have e104 : a.tmps[104]? = some (.pointer (some ⟨g2, 2, none⟩)) := by rw [ha]; exact putSel_on (e := (15, 104, .pointer (some ⟨g2, 2, none⟩))) 9 rfl rfl (hon 15 (by kernel_rfl)) rfl
                have e100 : a.tmps[100]? = some (v10) := by rw [ha]; exact putSel_on (e := (10, 100, v10)) 5 rfl rfl (hon 10 (by kernel_rfl)) rfl
                replace ha := Aside0.mk ha
                obtain ⟨X, cX, hX, hXC, hXa⟩ := (Q_F10 (hon 10 (by kernel_rfl)))
                subst hX
                obtain ⟨C, hC0, hC1, hC2⟩ := Q_HRB
                have hcell := blk_cell hC0 2
                have hfr := blk_frozen hC0 2
                obtain ⟨y, hy⟩ := cell_some hC1 2 (by omega)
                rw [hy] at hcell
                refine skip_ (w1 := w'.setCell ⟨g2, 2, none⟩ (.slice X m2.length cX)) (by rfl) rfl ?_ ?_
                · go_simp
                  try rfl
                refine hK.out _ _ ⟨v3, v6, v7, (.slice X m2.length cX), (by rw [ha.out]; exact putSel_none (v := undef) rfl), (((Only.refl _ _).set _ _).below Q_HB HG2.out Q_HB.size), Nat.le_trans Q_LT ((Only.refl _ g2).set _ _).size, (Q_HCP.only ((Only.refl _ _).set _ _) HQ2.out), (Q_HLG.other ((Only.refl _ _).set _ _) (by have := HG12.out; omega)), ⟨_, blk_set hC0 _ _, by rw [Array.size_setIfInBounds]; exact hC1, (Array.getElem?_setIfInBounds_ne (by omega)).trans hC2⟩, fun h_ => lies_below (Q_S3 h_) ((Only.refl _ g2).set _ _).size, fun h_ => lies_below (Q_S7 h_) ((Only.refl _ g2).set _ _).size, fun h_ => fresh_set (Q_F6 h_) _ _ HQG.out, fun h_ => fresh_set (⟨X, cX, rfl, hXC, hXa⟩) _ _ HQG.out, fun h_ => cell_set_ne hC0 1 2 (by omega) _ (Q_H13 h_), fun _ => cell_set hC0 hC1 2 (by omega) _, fun h0_ => absurd ((hoff 19 (by kernel_rfl)).symm.trans h0_) (by decide)⟩
              refine steps_cons ?_ ?_
              · rintro b a w' ⟨v3, v6, v7, v10, ha, Q_HB, Q_LT, Q_HCP, Q_HLG, Q_HRB, Q_S3, Q_S7, Q_F6, Q_F10, Q_H13, Q_H16, Q_H19⟩ hb_ hon hoff
                refine ⟨_, rfl, fun K hK => ?_⟩
                have e92 : a.tmps[92]? = some (.pointer (some ⟨g2, 0, none⟩)) := by rw [ha]; exact (putSel_off rfl).trans rfl
                replace ha := Aside0.mk ha
                refine value_ (w1 := w') (v := .pointer (some ⟨g2, 0, none⟩)) (by rfl) rfl ?_ ?_
                · go_simp
                  try rfl
                refine hK.out _ _ ⟨v3, v6, v7, v10, (by rw [ha.out]; exact putSel_upk 10 hb_ rfl rfl rfl), Q_HB, Q_LT, Q_HCP, Q_HLG, Q_HRB, Q_S3, Q_S7, Q_F6, Q_F10, Q_H13, Q_H16, fun h0_ => absurd ((hoff 19 (by kernel_rfl)).symm.trans h0_) (by decide)⟩
              refine steps_cons ?_ ?_
              · rintro b a w' ⟨v3, v6, v7, v10, ha, Q_HB, Q_LT, Q_HCP, Q_HLG, Q_HRB, Q_S3, Q_S7, Q_F6, Q_F10, Q_H13, Q_H16, Q_H19⟩ hb_ hon hoff
                refine ⟨_, rfl, fun K hK => ?_⟩
                have e105 : a.tmps[105]? = some (.pointer (some ⟨g2, 0, none⟩)) := by rw [ha]; exact putSel_on (e := (17, 105, .pointer (some ⟨g2, 0, none⟩))) 10 rfl rfl (hon 17 (by kernel_rfl)) rfl
                replace ha := Aside0.mk ha
                refine value_ (w1 := w') (v := .pointer (some ⟨g2, 3, none⟩)) (by rfl) rfl ?_ ?_
                · go_simp
                  try rfl
                refine hK.out _ _ ⟨v3, v6, v7, v10, (by rw [ha.out]; exact putSel_upk 11 hb_ rfl rfl rfl), Q_HB, Q_LT, Q_HCP, Q_HLG, Q_HRB, Q_S3, Q_S7, Q_F6, Q_F10, Q_H13, Q_H16, fun h0_ => absurd ((hoff 19 (by kernel_rfl)).symm.trans h0_) (by decide)⟩
              refine steps_cons ?_ ?_
              · rintro b a w' ⟨v3, v6, v7, v10, ha, Q_HB, Q_LT, Q_HCP, Q_HLG, Q_HRB, Q_S3, Q_S7, Q_F6, Q_F10, Q_H13, Q_H16, Q_H19⟩ hb_ hon hoff
                refine ⟨_, rfl, fun K hK => ?_⟩
                have e106 : a.tmps[106]? = some (.pointer (some ⟨g2, 3, none⟩)) := by rw [ha]; exact putSel_on (e := (18, 106, .pointer (some ⟨g2, 3, none⟩))) 11 rfl rfl (hon 18 (by kernel_rfl)) rfl
                replace ha := Aside0.mk ha
                obtain ⟨C, hC0, hC1, hC2⟩ := Q_HRB
                have hcell := blk_cell hC0 3
                have hfr := blk_frozen hC0 3
                obtain ⟨y, hy⟩ := cell_some hC1 3 (by omega)
                rw [hy] at hcell
                refine skip_ (w1 := w'.setCell ⟨g2, 3, none⟩ (.slice none 0 0)) (by rfl) rfl ?_ ?_
                · go_simp
                  try rfl
                refine hK.out _ _ ⟨v3, v6, v7, v10, (by rw [ha.out]; exact putSel_none (v := undef) rfl), (((Only.refl _ _).set _ _).below Q_HB HG2.out Q_HB.size), Nat.le_trans Q_LT ((Only.refl _ g2).set _ _).size, (Q_HCP.only ((Only.refl _ _).set _ _) HQ2.out), (Q_HLG.other ((Only.refl _ _).set _ _) (by have := HG12.out; omega)), ⟨_, blk_set hC0 _ _, by rw [Array.size_setIfInBounds]; exact hC1, (Array.getElem?_setIfInBounds_ne (by omega)).trans hC2⟩, fun h_ => lies_below (Q_S3 h_) ((Only.refl _ g2).set _ _).size, fun h_ => lies_below (Q_S7 h_) ((Only.refl _ g2).set _ _).size, fun h_ => fresh_set (Q_F6 h_) _ _ HQG.out, fun h_ => fresh_set (Q_F10 h_) _ _ HQG.out, fun h_ => cell_set_ne hC0 1 3 (by omega) _ (Q_H13 h_), fun h_ => cell_set_ne hC0 2 3 (by omega) _ (Q_H16 h_), fun _ => cell_set hC0 hC1 3 (by omega) _⟩
              exact steps_nil
            rintro b a w9 hall ⟨v3, v6, v7, v10, ha, Q_HB, Q_LT, Q_HCP, Q_HLG, Q_HRB, Q_S3, Q_S7, Q_F6, Q_F10, Q_H13, Q_H16, Q_H19⟩
            have hb3_ := hall 3 (by kernel_rfl)
            have hb5_ := hall 5 (by kernel_rfl)
            have hb6_ := hall 6 (by kernel_rfl)
            have hb7_ := hall 7 (by kernel_rfl)
            have hb9_ := hall 9 (by kernel_rfl)
            have hb10_ := hall 10 (by kernel_rfl)
            have hb11_ := hall 11 (by kernel_rfl)
            have hb12_ := hall 12 (by kernel_rfl)
            have hb13_ := hall 13 (by kernel_rfl)
            have hb14_ := hall 14 (by kernel_rfl)
            have hb15_ := hall 15 (by kernel_rfl)
            have hb16_ := hall 16 (by kernel_rfl)
            have hb17_ := hall 17 (by kernel_rfl)
            have hb18_ := hall 18 (by kernel_rfl)
            have hb19_ := hall 19 (by kernel_rfl)
            subst ha
            simp only [putSel, hb3_, hb5_, hb6_, hb7_, hb9_, hb10_, hb11_, hb12_, hb13_, hb14_, hb15_, hb16_, hb17_, hb18_, hb19_, if_true, Act.put, List.setIfInBounds_toArray, List.set_cons_zero, List.set_cons_succ]
            have N_HB := Aside0.mk Q_HB
            clear Q_HB
            have N_LT := Aside0.mk Q_LT
            clear Q_LT
            have N_HCP := Aside0.mk Q_HCP
            clear Q_HCP
            have N_HLG := Aside0.mk Q_HLG
            clear Q_HLG
            have N_HRB := Aside0.mk Q_HRB
            clear Q_HRB
            have N_S3 := Aside0.mk (Q_S3 hb3_)
            clear Q_S3
            have N_S7 := Aside0.mk (Q_S7 hb7_)
            clear Q_S7
            have N_F6 := Aside0.mk (Q_F6 hb6_)
            clear Q_F6
            have N_F10 := Aside0.mk (Q_F10 hb10_)
            clear Q_F10
            have N_H13 := Aside0.mk (Q_H13 hb13_)
            clear Q_H13
            have N_H16 := Aside0.mk (Q_H16 hb16_)
            clear Q_H16
            have N_H19 := Aside0.mk (Q_H19 hb19_)
            clear Q_H19
            clear hall hb3_ hb5_ hb6_ hb7_ hb9_ hb10_ hb11_ hb12_ hb13_ hb14_ hb15_ hb16_ hb17_ hb18_ hb19_
            go_wp2
            go_meet
            case rel => exact ⟨rfl, m1, m2, [], _, by simp, N_HLG.out, rl_of N_HRB.out N_H13.out N_H16.out N_H19.out N_F6.out N_F10.out HQG.out N_LT.out, N_HB.out⟩
          have z1 : (ka == 1) = false := beq_eq_false_iff_ne.2 k1
          have z2 : (ka == 2) = false := beq_eq_false_iff_ne.2 k2
          have z3 : (ka == 3) = false := beq_eq_false_iff_ne.2 k3
          have z4 : (ka == 4) = false := beq_eq_false_iff_ne.2 k4
          go_wp2
          go_meet
          case rel => exact ⟨rfl, O, N, T, b, by omega, HL1.out, HR1.out, HB1.out⟩
        case rest =>
          obtain ⟨rfl, O, N, T, b, hT, hL, hR, hB⟩ := hcut
          have HLz := Aside0.mk hL
          have HRz := Aside0.mk hR
          have HBz := Aside0.mk hB
          clear hL hR hB HL1 HR1 HB1 HCP1 HQ1 HQ2 HA1 HA2
          go_wp2_with (first | (go_at_call 11; refine (free_any HLz.out).mono ?_; rintro e wf ⟨rfl, rfl⟩) | (go_at_call 21; refine (Rfree_any HRz.out hn).mono ?_; rintro e wf ⟨rfl, rfl⟩))
          go_loop [14] (fun i => InnerRel n i) (fun i => n + 2 - (intOf i + 1).toNat)
          case atStart => exact Or.inl rfl
          case round =>
            rcases hrel with rfl | ⟨k2, hk2, rfl⟩
            · have HU := Aside0.mk (use_any HLz.out (-1))
              rw [useI_out (by omega)] at HU
              go_wp2_with (go_at_call 12; refine HU.out.mono ?_; rintro e wf ⟨rfl, rfl⟩)
              go_round
              case rel => exact Or.inr ⟨0, by omega, rfl⟩
              case measure => first | (simp [intOf]; done) | (simp [intOf]; omega)
            · by_cases hk3 : k2 < n
              · have HU := Aside0.mk (use_any HLz.out (k2 : Int))
                rw [useI_S hk3] at HU
                have z5 : (0 : Int) ≤ (k2 : Int) := by omega
                by_cases hk4 : k2 < 2
                · rw [useS_low _ _ _ k2 hk4] at HU
                  go_wp2_with (go_at_call 12; refine HU.out.mono ?_; rintro e wf ⟨rfl, rfl⟩)
                  go_round
                  case rel => exact Or.inr ⟨k2 + 1, by omega, by go_num⟩
                  case measure => first | (simp [intOf]; done) | (simp [intOf]; omega)
                · have HV := Aside0.mk (Rused_any HRz.out (k2 : Int))
                  rw [usedR_nat _ _ _ k2 (by omega)] at HV
                  obtain ⟨u, hu⟩ : ∃ u, useS O N T k2 = u := ⟨_, rfl⟩
                  rw [hu] at HU HV
                  clear hu
                  cases u
                  all_goals
                    go_wp2_with (first | (go_at_call 22; refine HV.out.mono ?_; rintro e wf ⟨rfl, rfl⟩) | (go_at_call 12; refine HU.out.mono ?_; rintro e wf ⟨rfl, rfl⟩))
                    go_round
                    case rel => exact Or.inr ⟨k2 + 1, by omega, by go_num⟩
                    case measure => first | (simp [intOf]; done) | (simp [intOf]; omega)
              · by_cases hk5 : k2 = n
                · have HU := Aside0.mk (use_any HLz.out (k2 : Int))
                  rw [useI_out (by omega)] at HU
                  have z5 : (0 : Int) ≤ (k2 : Int) := by omega
                  have hk6 : n ≤ k2 := by omega
                  have hk7 : k2 ≤ n := by omega
                  clear hk5
                  go_wp2_with (go_at_call 12; refine HU.out.mono ?_; rintro e wf ⟨rfl, rfl⟩)
                  go_round
                  case rel => exact Or.inr ⟨k2 + 1, by omega, by go_num⟩
                  case measure => first | (simp [intOf]; done) | (simp [intOf]; omega)
                · go_wp2
                  go_roundw
                  case rel => exact ⟨k + 1, O, N, T, _, by omega, by go_num, hT, HLz.out, HRz.out, HBz.out⟩
                  case measure => first | (simp [intOf]; done) | (simp [intOf]; omega)
      · have HLz := Aside0.mk hL
        have HRz := Aside0.mk hR
        have HBz := Aside0.mk hB
        clear hL hR hB
        go_wp2_with (first | (go_at_call 11; refine (free_any HLz.out).mono ?_; rintro e wf ⟨rfl, rfl⟩) | (go_at_call 21; refine (Rfree_any HRz.out hn).mono ?_; rintro e wf ⟨rfl, rfl⟩))
        go_ret
        exact ⟨by simp, HBz.out⟩
end Go.Proofs.Ytaphooibfgnkkaa.Hand
