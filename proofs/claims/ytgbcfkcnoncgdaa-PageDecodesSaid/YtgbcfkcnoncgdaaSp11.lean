import Derived.Test.YtgbcfkcnoncgdaaSp0
import Derived.Test.YtgbcfkcnoncgdaaSp8
import Derived.Test.YtgbcfkcnoncgdaaSp9
import Derived.Test.YtgbcfkcnoncgdaaSp10
namespace Go.Proofs.Ytgbcfkcnoncgdaa.Sp
open Go.Proofs.Ytgbcfkcnoncgdaa.Hand
open Go.RowKit Go.Proofs.YtgbcfkcnoncgdaaW.PrintWords Go.Proofs.YtgbcfkcnoncgdaaW.PrintLast Go.Proofs.YtgbcfkcnoncgdaaW.PrintMore
attribute [local go_sem] max2_int min2_int max_two min_two max_three min_three max_four min_four
set_option linter.unusedVariables false
set_option linter.unusedSimpArgs false
def sapwoodref04_Right.j0 : Nat → Bool → Bool → Bool → Int → List (S64) → List (S65) → ByteArray → Int → Option (Bool)
  | 0, _, _, _, _, _, _, _, _ => none
  | k + 1, x3, x4, x5, x259000, x259001, x259002, x259003, x259004 => if x259000 = 1 then (if x4 = true then (if x5 = true then ((sapwoodref04_cells.f k x259001).bind fun t259 => (some t259)) else (some false)) else (some false)) else (if x259000 = 2 then (if x3 = true then (if x5 = true then ((sapwoodref04_kids.f k x259002).bind fun t260 => (some t260)) else (some false)) else (some false)) else (if x259000 = 3 then (if x3 = true then (if x4 = true then (if (x259003.size : Int) ≥ 1 then (if (x259003.size : Int) ≤ 240 then (if x259004 = 0 then (some true) else ((sapwoodref04_Number.f x259004).bind fun t261 => (some t261))) else (some false)) else (some false)) else (some false)) else (some false)) else (some false)))
def sapwoodref04_Right.f (k : Nat) (a0_0 : Int) (l0_1 : List (S64)) (l0_2 : List (S65)) (a0_3 : ByteArray) (a0_4 : Int) : Option (Bool) := if a0_3.toList = ([] : List UInt8) then (sapwoodref04_Right.j0 k ((l0_1.length : Int) == 0) ((l0_2.length : Int) == 0) (a0_4 == 0) a0_0 l0_1 l0_2 a0_3 a0_4) else (sapwoodref04_Right.j0 k ((l0_1.length : Int) == 0) ((l0_2.length : Int) == 0) false a0_0 l0_1 l0_2 a0_3 a0_4)
set_option maxHeartbeats 8000000 in
set_option maxRecDepth 100000 in
theorem sapwoodref04_Right.calls (k : Nat) (a0_0 : Int) (A0_1 : Option Addr) (c0_1 : Nat) (l0_1 : List (S64)) (A0_2 : Option Addr) (c0_2 : Nat) (l0_2 : List (S65)) (a0_3 : ByteArray) (a0_4 : Int) (r : Bool) (w : World) (hr0_1 : Kd.C k64 w A0_1 l0_1.length l0_1) (hc0_1 : l0_1.length ≤ c0_1) (hr0_2 : Kd.C k65 w A0_2 l0_2.length l0_2) (hc0_2 : l0_2.length ≤ c0_2) (h : sapwoodref04_Right.f k a0_0 l0_1 l0_2 a0_3 a0_4 = some r) :
    Calls Try.prog 18 #[.agg #[.int .i64 a0_0, .slice A0_1 l0_1.length c0_1, .slice A0_2 l0_2.length c0_2, .string a0_3, .int .i64 a0_4]] w fun e w' => e = .returned (.bool r) ∧ Below w.heap.size w w' := by
  have hu35 := Try.underlying35
  have HR0_1 := Aside0.mk hr0_1
  have HC0_1 := Aside0.mk hc0_1
  clear hr0_1 hc0_1
  have HR0_2 := Aside0.mk hr0_2
  have HC0_2 := Aside0.mk hc0_2
  clear hr0_2 hc0_2
  have HB := Aside0.mk (Below.refl w.heap.size w)
  have H : (if a0_3.toList = ([] : List UInt8) then (sapwoodref04_Right.j0 k ((l0_1.length : Int) == 0) ((l0_2.length : Int) == 0) (a0_4 == 0) a0_0 l0_1 l0_2 a0_3 a0_4) else (sapwoodref04_Right.j0 k ((l0_1.length : Int) == 0) ((l0_2.length : Int) == 0) false a0_0 l0_1 l0_2 a0_3 a0_4)) = some r := h
  clear h
  have HC2 := Aside0.mk H
  clear H
  go_enter Try.func18, Try.ntmps18
  go_upto_region 3 with (first | ((with_reducible refine gate_dst (N := 1) rfl ?_); (try (refine gate_guard (by rfl) ?_; dsimp only)); refine box_event ?hg (N := 1) ?hd (cs := #[.int .i64 a0_0, .slice A0_1 l0_1.length c0_1, .slice A0_2 l0_2.length c0_2, .string a0_3, .int .i64 a0_4]) (t := 35) ?hr ?_; (case hd => rfl); (case hg => rfl); (case hr => first | (go_simp; done) | (go_simp; rfl)); intro gb258 hg w3 hbox hb; have n0_ := Aside0.mk (below_step (by repeat (first | (with_reducible first | exact HB.out | apply below_alloc | apply pw_below_drewN | apply below_drew1) | exact HB.out)) hb); have n1_ := Aside0.mk (hbox); have n2_ := Aside0.mk ((by rw [hg]; exact (below_size (by repeat (first | (with_reducible first | exact HB.out | apply below_alloc | apply pw_below_drewN | apply below_drew1) | exact HB.out))) : w.heap.size ≤ gb258)); have n3_ := n2_; clear HB; have HB := n0_; have BK258 := n1_; have GW258 := n2_; have GE258 := n3_; clear n0_ n1_ n2_ n3_; clear hb hbox hg; have hcz4_0 : w3.cell? ⟨gb258, 0, none⟩ = some (.int .i64 a0_0) := (blk_cell BK258.out 0).trans rfl; have hcz4_1 : w3.cell? ⟨gb258, 1, none⟩ = some (.slice A0_1 l0_1.length c0_1) := (blk_cell BK258.out 1).trans rfl; have hcz4_2 : w3.cell? ⟨gb258, 2, none⟩ = some (.slice A0_2 l0_2.length c0_2) := (blk_cell BK258.out 2).trans rfl; have hcz4_3 : w3.cell? ⟨gb258, 3, none⟩ = some (.string a0_3) := (blk_cell BK258.out 3).trans rfl; have hcz4_4 : w3.cell? ⟨gb258, 4, none⟩ = some (.int .i64 a0_4) := (blk_cell BK258.out 4).trans rfl; have hfz4_0 := blk_frozen BK258.out 0; have hfz4_1 := blk_frozen BK258.out 1; have hfz4_2 := blk_frozen BK258.out 2; have hfz4_3 := blk_frozen BK258.out 3; have hfz4_4 := blk_frozen BK258.out 4))
  (try simp only [Act.put, List.setIfInBounds_toArray, List.set_cons_zero, List.set_cons_succ])
  go_cut [5] (fun v5 wc => ∃ (kq : Nat) (x5_1 : Bool), v5 = .bool x5_1 ∧ Aside0 (sapwoodref04_Right.j0 kq ((l0_1.length : Int) == 0) ((l0_2.length : Int) == 0) x5_1 a0_0 l0_1 l0_2 a0_3 a0_4 = some r) ∧ Aside0 (kq ≤ k) ∧ Aside0 (wc.heap[gb258]? = some (.cells #[.int .i64 a0_0, (.slice A0_1 l0_1.length c0_1), (.slice A0_2 l0_2.length c0_2), .string a0_3, .int .i64 a0_4] 35 (0, 0))) ∧ Aside0 (Below w.heap.size w wc))
  case first =>
    have H := HC2.out
    clear HC2
    by_cases c5 : a0_3.toList = ([] : List UInt8)
    rotate_left
    · rw [if_neg c5] at H
      have c5b0 : (a0_3.toList == ([] : List UInt8)) = false := beq_eq_false_iff_ne.mpr c5
      have c5b1 : (a0_3.toList != ([] : List UInt8)) = true := bne_iff_ne.mpr c5
      (first | rw [c5b0] | (simp only [i64_w, i32_w]; rw [c5b0]) | skip)
      have H' := Aside0.mk H
      clear H
      have hcz7_0 : w3.cell? ⟨gb258, 0, none⟩ = some (.int .i64 a0_0) := (blk_cell BK258.out 0).trans rfl
      have hcz7_1 : w3.cell? ⟨gb258, 1, none⟩ = some (.slice A0_1 l0_1.length c0_1) := (blk_cell BK258.out 1).trans rfl
      have hcz7_2 : w3.cell? ⟨gb258, 2, none⟩ = some (.slice A0_2 l0_2.length c0_2) := (blk_cell BK258.out 2).trans rfl
      have hcz7_3 : w3.cell? ⟨gb258, 3, none⟩ = some (.string a0_3) := (blk_cell BK258.out 3).trans rfl
      have hcz7_4 : w3.cell? ⟨gb258, 4, none⟩ = some (.int .i64 a0_4) := (blk_cell BK258.out 4).trans rfl
      have hfz7_0 := blk_frozen BK258.out 0
      have hfz7_1 := blk_frozen BK258.out 1
      have hfz7_2 := blk_frozen BK258.out 2
      have hfz7_3 := blk_frozen BK258.out 3
      have hfz7_4 := blk_frozen BK258.out 4
      go_wp2
      go_meet
      case rel => exact ⟨_, (false), (by first | rfl | (simp; done) | (simp [*]; done)), H', ⟨by first | omega | exact Nat.le_refl _⟩, ⟨by (with_reducible repeat (first | refine blk_drewN ?_ _ | refine blk_drew ?_ | refine blk_alloc ?_ _)); exact BK258.out⟩, ⟨by repeat (first | (with_reducible first | exact HB.out | apply below_alloc | apply pw_below_drewN | apply below_drew1 | refine below_set ?_ GE258.out) | exact HB.out)⟩⟩
    rw [if_pos c5] at H
    have c5b0 : (a0_3.toList == ([] : List UInt8)) = true := beq_iff_eq.mpr c5
    have c5b1 : (a0_3.toList != ([] : List UInt8)) = false := bne_eq_false_iff_eq.mpr c5
    clear c5
    (first | rw [c5b0] | (simp only [i64_w, i32_w]; rw [c5b0]) | skip)
    have H' := Aside0.mk H
    clear H
    have hcz6_0 : w3.cell? ⟨gb258, 0, none⟩ = some (.int .i64 a0_0) := (blk_cell BK258.out 0).trans rfl
    have hcz6_1 : w3.cell? ⟨gb258, 1, none⟩ = some (.slice A0_1 l0_1.length c0_1) := (blk_cell BK258.out 1).trans rfl
    have hcz6_2 : w3.cell? ⟨gb258, 2, none⟩ = some (.slice A0_2 l0_2.length c0_2) := (blk_cell BK258.out 2).trans rfl
    have hcz6_3 : w3.cell? ⟨gb258, 3, none⟩ = some (.string a0_3) := (blk_cell BK258.out 3).trans rfl
    have hcz6_4 : w3.cell? ⟨gb258, 4, none⟩ = some (.int .i64 a0_4) := (blk_cell BK258.out 4).trans rfl
    have hfz6_0 := blk_frozen BK258.out 0
    have hfz6_1 := blk_frozen BK258.out 1
    have hfz6_2 := blk_frozen BK258.out 2
    have hfz6_3 := blk_frozen BK258.out 3
    have hfz6_4 := blk_frozen BK258.out 4
    go_wp2
    go_meet
    case rel => exact ⟨_, ((a0_4 == 0)), (by first | rfl | (simp; done) | (simp [*]; done)), H', ⟨by first | omega | exact Nat.le_refl _⟩, ⟨by (with_reducible repeat (first | refine blk_drewN ?_ _ | refine blk_drew ?_ | refine blk_alloc ?_ _)); exact BK258.out⟩, ⟨by repeat (first | (with_reducible first | exact HB.out | apply below_alloc | apply pw_below_drewN | apply below_drew1 | refine below_set ?_ GE258.out) | exact HB.out)⟩⟩
  case rest =>
    clear HC2
    try clear c1
    try clear p2
    try clear c5
    try clear c5b0
    try clear c5b1
    try clear hcz4_0
    try clear hcz4_1
    try clear hcz4_2
    try clear hcz4_3
    try clear hcz4_4
    try clear hcz6_0
    try clear hcz6_1
    try clear hcz6_2
    try clear hcz6_3
    try clear hcz6_4
    try clear hcz7_0
    try clear hcz7_1
    try clear hcz7_2
    try clear hcz7_3
    try clear hcz7_4
    try clear hfz4_0
    try clear hfz4_1
    try clear hfz4_2
    try clear hfz4_3
    try clear hfz4_4
    try clear hfz6_0
    try clear hfz6_1
    try clear hfz6_2
    try clear hfz6_3
    try clear hfz6_4
    try clear hfz7_0
    try clear hfz7_1
    try clear hfz7_2
    try clear hfz7_3
    try clear hfz7_4
    obtain ⟨kq, x5_1, rfl, HA, HJ1, BK258, HB⟩ := hcut
    cases kq with
    | zero => exact absurd HA.out (by simp [sapwoodref04_Right.j0])
    | succ kj1 =>
      have H := HA.out
      clear HA
      simp only [sapwoodref04_Right.j0] at H
      by_cases c8 : a0_0 = 1
      · rw [if_pos c8] at H
        have c8b0 : (a0_0 == 1) = true := beq_iff_eq.mpr c8
        have c8b1 : (a0_0 != 1) = false := bne_eq_false_iff_eq.mpr c8
        clear c8
        by_cases c9 : ((l0_2.length : Int) == 0) = true
        rotate_left
        · rw [if_neg c9] at H
          have c9b0 : ((l0_2.length : Int) == 0) = false := by simpa using c9
          (try (have c9b1 : decide ((l0_2.length : Int) = 0) = false := by simpa using c9))
          (try (have c9b2 : ((l0_2.length : Int) == 0) = false := by simpa using c9))
          (try (have c9b3 : ¬ ((l0_2.length : Int) = 0) := by simpa using c9))
          clear c9
          obtain rfl := Option.some.inj H
          have hcz15_0 : wc.cell? ⟨gb258, 0, none⟩ = some (.int .i64 a0_0) := (blk_cell BK258.out 0).trans rfl
          have hcz15_1 : wc.cell? ⟨gb258, 1, none⟩ = some (.slice A0_1 l0_1.length c0_1) := (blk_cell BK258.out 1).trans rfl
          have hcz15_2 : wc.cell? ⟨gb258, 2, none⟩ = some (.slice A0_2 l0_2.length c0_2) := (blk_cell BK258.out 2).trans rfl
          have hcz15_3 : wc.cell? ⟨gb258, 3, none⟩ = some (.string a0_3) := (blk_cell BK258.out 3).trans rfl
          have hcz15_4 : wc.cell? ⟨gb258, 4, none⟩ = some (.int .i64 a0_4) := (blk_cell BK258.out 4).trans rfl
          have hfz15_0 := blk_frozen BK258.out 0
          have hfz15_1 := blk_frozen BK258.out 1
          have hfz15_2 := blk_frozen BK258.out 2
          have hfz15_3 := blk_frozen BK258.out 3
          have hfz15_4 := blk_frozen BK258.out 4
          go_wp2
          go_ret
          exact ⟨by first | rfl | (simp [errW_none, errW_some] <;> rfl) | (simp [*, errW_none, errW_some] <;> rfl), by repeat (first | (with_reducible first | exact HB.out | apply below_alloc | apply pw_below_drewN | apply below_drew1 | refine below_set ?_ GE258.out) | exact HB.out)⟩
        rw [if_pos c9] at H
        have c9b0 : ((l0_2.length : Int) == 0) = true := c9
        (try (have c9b1 : decide ((l0_2.length : Int) = 0) = true := by simpa using c9))
        (try (have c9b2 : ((l0_2.length : Int) == 0) = true := by simpa using c9))
        clear c9
        by_cases c10 : x5_1 = true
        rotate_left
        · replace c10 := Bool.eq_false_iff.mpr c10
          subst c10
          have H1 : (some false) = some r := by rw [if_neg (show ¬ (false = true) by decide)] at H; exact H
          clear H
          have H := H1
          clear H1
          obtain rfl := Option.some.inj H
          have hcz14_0 : wc.cell? ⟨gb258, 0, none⟩ = some (.int .i64 a0_0) := (blk_cell BK258.out 0).trans rfl
          have hcz14_1 : wc.cell? ⟨gb258, 1, none⟩ = some (.slice A0_1 l0_1.length c0_1) := (blk_cell BK258.out 1).trans rfl
          have hcz14_2 : wc.cell? ⟨gb258, 2, none⟩ = some (.slice A0_2 l0_2.length c0_2) := (blk_cell BK258.out 2).trans rfl
          have hcz14_3 : wc.cell? ⟨gb258, 3, none⟩ = some (.string a0_3) := (blk_cell BK258.out 3).trans rfl
          have hcz14_4 : wc.cell? ⟨gb258, 4, none⟩ = some (.int .i64 a0_4) := (blk_cell BK258.out 4).trans rfl
          have hfz14_0 := blk_frozen BK258.out 0
          have hfz14_1 := blk_frozen BK258.out 1
          have hfz14_2 := blk_frozen BK258.out 2
          have hfz14_3 := blk_frozen BK258.out 3
          have hfz14_4 := blk_frozen BK258.out 4
          go_wp2
          go_ret
          exact ⟨by first | rfl | (simp [errW_none, errW_some] <;> rfl) | (simp [*, errW_none, errW_some] <;> rfl), by repeat (first | (with_reducible first | exact HB.out | apply below_alloc | apply pw_below_drewN | apply below_drew1 | refine below_set ?_ GE258.out) | exact HB.out)⟩
        subst c10
        have H1 : ((sapwoodref04_cells.f kj1 l0_1).bind fun t259 => (some t259)) = some r := by rw [if_pos rfl] at H; exact H
        clear H
        have H := H1
        clear H1
        replace H := Option.bind_eq_some_iff.mp H
        obtain ⟨t259, A110, H⟩ := H
        replace H : (some t259) = some r := H
        have A11 := Aside0.mk A110
        clear A110
        obtain rfl := Option.some.inj H
        have hcz12_0 : wc.cell? ⟨gb258, 0, none⟩ = some (.int .i64 a0_0) := (blk_cell BK258.out 0).trans rfl
        have hcz12_1 : wc.cell? ⟨gb258, 1, none⟩ = some (.slice A0_1 l0_1.length c0_1) := (blk_cell BK258.out 1).trans rfl
        have hcz12_2 : wc.cell? ⟨gb258, 2, none⟩ = some (.slice A0_2 l0_2.length c0_2) := (blk_cell BK258.out 2).trans rfl
        have hcz12_3 : wc.cell? ⟨gb258, 3, none⟩ = some (.string a0_3) := (blk_cell BK258.out 3).trans rfl
        have hcz12_4 : wc.cell? ⟨gb258, 4, none⟩ = some (.int .i64 a0_4) := (blk_cell BK258.out 4).trans rfl
        have hfz12_0 := blk_frozen BK258.out 0
        have hfz12_1 := blk_frozen BK258.out 1
        have hfz12_2 := blk_frozen BK258.out 2
        have hfz12_3 := blk_frozen BK258.out 3
        have hfz12_4 := blk_frozen BK258.out 4
        go_wp2_with (first | (go_at_call 36; (with_reducible refine (sapwoodref04_cells.calls kj1 _ _ l0_1 t259 _ ?side1 ?side2 A11.out).mono ?_); (case side1 => repeat (first | exact (Kd.C_below HR0_1.out HB.out) | (with_reducible refine Kd.C_alloc ?_ _) | (with_reducible refine Kd.C_drewN ?_ _) | (with_reducible refine Kd.C_drew ?_))); (case side2 => exact HC0_1.out); rintro e w13 ⟨rfl, hb⟩; have n0_ := Aside0.mk (blk_below (g := gb258) (o := .cells #[.int .i64 a0_0, .slice A0_1 l0_1.length c0_1, .slice A0_2 l0_2.length c0_2, .string a0_3, .int .i64 a0_4] 35 (0, 0)) (by (with_reducible repeat (first | refine blk_drewN ?_ _ | refine blk_drew ?_ | refine blk_alloc ?_ _)); exact BK258.out) hb); have n1_ := Aside0.mk (below_step (by repeat (first | (with_reducible first | exact HB.out | apply below_alloc | apply pw_below_drewN | apply below_drew1 | refine below_set ?_ GE258.out) | exact HB.out)) hb); clear BK258; clear HB; have BK258 := n0_; have HB := n1_; clear n0_ n1_; (try clear hb); (try clear hb2); (try clear hk); (try clear hi)))
        go_ret
        exact ⟨by first | rfl | (simp [errW_none, errW_some] <;> rfl) | (simp [*, errW_none, errW_some] <;> rfl), by repeat (first | (with_reducible first | exact HB.out | apply below_alloc | apply pw_below_drewN | apply below_drew1 | refine below_set ?_ GE258.out) | exact HB.out)⟩
      rw [if_neg c8] at H
      have c8b0 : (a0_0 == 1) = false := beq_eq_false_iff_ne.mpr c8
      have c8b1 : (a0_0 != 1) = true := bne_iff_ne.mpr c8
      by_cases c16 : a0_0 = 2
      · rw [if_pos c16] at H
        have c16b0 : (a0_0 == 2) = true := beq_iff_eq.mpr c16
        have c16b1 : (a0_0 != 2) = false := bne_eq_false_iff_eq.mpr c16
        clear c16
        by_cases c17 : ((l0_1.length : Int) == 0) = true
        rotate_left
        · rw [if_neg c17] at H
          have c17b0 : ((l0_1.length : Int) == 0) = false := by simpa using c17
          (try (have c17b1 : decide ((l0_1.length : Int) = 0) = false := by simpa using c17))
          (try (have c17b2 : ((l0_1.length : Int) == 0) = false := by simpa using c17))
          (try (have c17b3 : ¬ ((l0_1.length : Int) = 0) := by simpa using c17))
          clear c17
          obtain rfl := Option.some.inj H
          have hcz23_0 : wc.cell? ⟨gb258, 0, none⟩ = some (.int .i64 a0_0) := (blk_cell BK258.out 0).trans rfl
          have hcz23_1 : wc.cell? ⟨gb258, 1, none⟩ = some (.slice A0_1 l0_1.length c0_1) := (blk_cell BK258.out 1).trans rfl
          have hcz23_2 : wc.cell? ⟨gb258, 2, none⟩ = some (.slice A0_2 l0_2.length c0_2) := (blk_cell BK258.out 2).trans rfl
          have hcz23_3 : wc.cell? ⟨gb258, 3, none⟩ = some (.string a0_3) := (blk_cell BK258.out 3).trans rfl
          have hcz23_4 : wc.cell? ⟨gb258, 4, none⟩ = some (.int .i64 a0_4) := (blk_cell BK258.out 4).trans rfl
          have hfz23_0 := blk_frozen BK258.out 0
          have hfz23_1 := blk_frozen BK258.out 1
          have hfz23_2 := blk_frozen BK258.out 2
          have hfz23_3 := blk_frozen BK258.out 3
          have hfz23_4 := blk_frozen BK258.out 4
          go_wp2
          go_ret
          exact ⟨by first | rfl | (simp [errW_none, errW_some] <;> rfl) | (simp [*, errW_none, errW_some] <;> rfl), by repeat (first | (with_reducible first | exact HB.out | apply below_alloc | apply pw_below_drewN | apply below_drew1 | refine below_set ?_ GE258.out) | exact HB.out)⟩
        rw [if_pos c17] at H
        have c17b0 : ((l0_1.length : Int) == 0) = true := c17
        (try (have c17b1 : decide ((l0_1.length : Int) = 0) = true := by simpa using c17))
        (try (have c17b2 : ((l0_1.length : Int) == 0) = true := by simpa using c17))
        clear c17
        by_cases c18 : x5_1 = true
        rotate_left
        · replace c18 := Bool.eq_false_iff.mpr c18
          subst c18
          have H1 : (some false) = some r := by rw [if_neg (show ¬ (false = true) by decide)] at H; exact H
          clear H
          have H := H1
          clear H1
          obtain rfl := Option.some.inj H
          have hcz22_0 : wc.cell? ⟨gb258, 0, none⟩ = some (.int .i64 a0_0) := (blk_cell BK258.out 0).trans rfl
          have hcz22_1 : wc.cell? ⟨gb258, 1, none⟩ = some (.slice A0_1 l0_1.length c0_1) := (blk_cell BK258.out 1).trans rfl
          have hcz22_2 : wc.cell? ⟨gb258, 2, none⟩ = some (.slice A0_2 l0_2.length c0_2) := (blk_cell BK258.out 2).trans rfl
          have hcz22_3 : wc.cell? ⟨gb258, 3, none⟩ = some (.string a0_3) := (blk_cell BK258.out 3).trans rfl
          have hcz22_4 : wc.cell? ⟨gb258, 4, none⟩ = some (.int .i64 a0_4) := (blk_cell BK258.out 4).trans rfl
          have hfz22_0 := blk_frozen BK258.out 0
          have hfz22_1 := blk_frozen BK258.out 1
          have hfz22_2 := blk_frozen BK258.out 2
          have hfz22_3 := blk_frozen BK258.out 3
          have hfz22_4 := blk_frozen BK258.out 4
          go_wp2
          go_ret
          exact ⟨by first | rfl | (simp [errW_none, errW_some] <;> rfl) | (simp [*, errW_none, errW_some] <;> rfl), by repeat (first | (with_reducible first | exact HB.out | apply below_alloc | apply pw_below_drewN | apply below_drew1 | refine below_set ?_ GE258.out) | exact HB.out)⟩
        subst c18
        have H1 : ((sapwoodref04_kids.f kj1 l0_2).bind fun t260 => (some t260)) = some r := by rw [if_pos rfl] at H; exact H
        clear H
        have H := H1
        clear H1
        replace H := Option.bind_eq_some_iff.mp H
        obtain ⟨t260, A190, H⟩ := H
        replace H : (some t260) = some r := H
        have A19 := Aside0.mk A190
        clear A190
        obtain rfl := Option.some.inj H
        have hcz20_0 : wc.cell? ⟨gb258, 0, none⟩ = some (.int .i64 a0_0) := (blk_cell BK258.out 0).trans rfl
        have hcz20_1 : wc.cell? ⟨gb258, 1, none⟩ = some (.slice A0_1 l0_1.length c0_1) := (blk_cell BK258.out 1).trans rfl
        have hcz20_2 : wc.cell? ⟨gb258, 2, none⟩ = some (.slice A0_2 l0_2.length c0_2) := (blk_cell BK258.out 2).trans rfl
        have hcz20_3 : wc.cell? ⟨gb258, 3, none⟩ = some (.string a0_3) := (blk_cell BK258.out 3).trans rfl
        have hcz20_4 : wc.cell? ⟨gb258, 4, none⟩ = some (.int .i64 a0_4) := (blk_cell BK258.out 4).trans rfl
        have hfz20_0 := blk_frozen BK258.out 0
        have hfz20_1 := blk_frozen BK258.out 1
        have hfz20_2 := blk_frozen BK258.out 2
        have hfz20_3 := blk_frozen BK258.out 3
        have hfz20_4 := blk_frozen BK258.out 4
        go_wp2_with (first | (go_at_call 37; (with_reducible refine (sapwoodref04_kids.calls kj1 _ _ l0_2 t260 _ ?side1 ?side2 A19.out).mono ?_); (case side1 => repeat (first | exact (Kd.C_below HR0_2.out HB.out) | (with_reducible refine Kd.C_alloc ?_ _) | (with_reducible refine Kd.C_drewN ?_ _) | (with_reducible refine Kd.C_drew ?_))); (case side2 => exact HC0_2.out); rintro e w21 ⟨rfl, hb⟩; have n0_ := Aside0.mk (blk_below (g := gb258) (o := .cells #[.int .i64 a0_0, .slice A0_1 l0_1.length c0_1, .slice A0_2 l0_2.length c0_2, .string a0_3, .int .i64 a0_4] 35 (0, 0)) (by (with_reducible repeat (first | refine blk_drewN ?_ _ | refine blk_drew ?_ | refine blk_alloc ?_ _)); exact BK258.out) hb); have n1_ := Aside0.mk (below_step (by repeat (first | (with_reducible first | exact HB.out | apply below_alloc | apply pw_below_drewN | apply below_drew1 | refine below_set ?_ GE258.out) | exact HB.out)) hb); clear BK258; clear HB; have BK258 := n0_; have HB := n1_; clear n0_ n1_; (try clear hb); (try clear hb2); (try clear hk); (try clear hi)))
        go_ret
        exact ⟨by first | rfl | (simp [errW_none, errW_some] <;> rfl) | (simp [*, errW_none, errW_some] <;> rfl), by repeat (first | (with_reducible first | exact HB.out | apply below_alloc | apply pw_below_drewN | apply below_drew1 | refine below_set ?_ GE258.out) | exact HB.out)⟩
      rw [if_neg c16] at H
      have c16b0 : (a0_0 == 2) = false := beq_eq_false_iff_ne.mpr c16
      have c16b1 : (a0_0 != 2) = true := bne_iff_ne.mpr c16
      by_cases c24 : a0_0 = 3
      rotate_left
      · rw [if_neg c24] at H
        have c24b0 : (a0_0 == 3) = false := beq_eq_false_iff_ne.mpr c24
        have c24b1 : (a0_0 != 3) = true := bne_iff_ne.mpr c24
        obtain rfl := Option.some.inj H
        have hcz37_0 : wc.cell? ⟨gb258, 0, none⟩ = some (.int .i64 a0_0) := (blk_cell BK258.out 0).trans rfl
        have hcz37_1 : wc.cell? ⟨gb258, 1, none⟩ = some (.slice A0_1 l0_1.length c0_1) := (blk_cell BK258.out 1).trans rfl
        have hcz37_2 : wc.cell? ⟨gb258, 2, none⟩ = some (.slice A0_2 l0_2.length c0_2) := (blk_cell BK258.out 2).trans rfl
        have hcz37_3 : wc.cell? ⟨gb258, 3, none⟩ = some (.string a0_3) := (blk_cell BK258.out 3).trans rfl
        have hcz37_4 : wc.cell? ⟨gb258, 4, none⟩ = some (.int .i64 a0_4) := (blk_cell BK258.out 4).trans rfl
        have hfz37_0 := blk_frozen BK258.out 0
        have hfz37_1 := blk_frozen BK258.out 1
        have hfz37_2 := blk_frozen BK258.out 2
        have hfz37_3 := blk_frozen BK258.out 3
        have hfz37_4 := blk_frozen BK258.out 4
        go_wp2
        go_ret
        exact ⟨by first | rfl | (simp [errW_none, errW_some] <;> rfl) | (simp [*, errW_none, errW_some] <;> rfl), by repeat (first | (with_reducible first | exact HB.out | apply below_alloc | apply pw_below_drewN | apply below_drew1 | refine below_set ?_ GE258.out) | exact HB.out)⟩
      rw [if_pos c24] at H
      have c24b0 : (a0_0 == 3) = true := beq_iff_eq.mpr c24
      have c24b1 : (a0_0 != 3) = false := bne_eq_false_iff_eq.mpr c24
      clear c24
      by_cases c25 : ((l0_1.length : Int) == 0) = true
      rotate_left
      · rw [if_neg c25] at H
        have c25b0 : ((l0_1.length : Int) == 0) = false := by simpa using c25
        (try (have c25b1 : decide ((l0_1.length : Int) = 0) = false := by simpa using c25))
        (try (have c25b2 : ((l0_1.length : Int) == 0) = false := by simpa using c25))
        (try (have c25b3 : ¬ ((l0_1.length : Int) = 0) := by simpa using c25))
        clear c25
        obtain rfl := Option.some.inj H
        have hcz36_0 : wc.cell? ⟨gb258, 0, none⟩ = some (.int .i64 a0_0) := (blk_cell BK258.out 0).trans rfl
        have hcz36_1 : wc.cell? ⟨gb258, 1, none⟩ = some (.slice A0_1 l0_1.length c0_1) := (blk_cell BK258.out 1).trans rfl
        have hcz36_2 : wc.cell? ⟨gb258, 2, none⟩ = some (.slice A0_2 l0_2.length c0_2) := (blk_cell BK258.out 2).trans rfl
        have hcz36_3 : wc.cell? ⟨gb258, 3, none⟩ = some (.string a0_3) := (blk_cell BK258.out 3).trans rfl
        have hcz36_4 : wc.cell? ⟨gb258, 4, none⟩ = some (.int .i64 a0_4) := (blk_cell BK258.out 4).trans rfl
        have hfz36_0 := blk_frozen BK258.out 0
        have hfz36_1 := blk_frozen BK258.out 1
        have hfz36_2 := blk_frozen BK258.out 2
        have hfz36_3 := blk_frozen BK258.out 3
        have hfz36_4 := blk_frozen BK258.out 4
        go_wp2
        go_ret
        exact ⟨by first | rfl | (simp [errW_none, errW_some] <;> rfl) | (simp [*, errW_none, errW_some] <;> rfl), by repeat (first | (with_reducible first | exact HB.out | apply below_alloc | apply pw_below_drewN | apply below_drew1 | refine below_set ?_ GE258.out) | exact HB.out)⟩
      rw [if_pos c25] at H
      have c25b0 : ((l0_1.length : Int) == 0) = true := c25
      (try (have c25b1 : decide ((l0_1.length : Int) = 0) = true := by simpa using c25))
      (try (have c25b2 : ((l0_1.length : Int) == 0) = true := by simpa using c25))
      clear c25
      by_cases c26 : ((l0_2.length : Int) == 0) = true
      rotate_left
      · rw [if_neg c26] at H
        have c26b0 : ((l0_2.length : Int) == 0) = false := by simpa using c26
        (try (have c26b1 : decide ((l0_2.length : Int) = 0) = false := by simpa using c26))
        (try (have c26b2 : ((l0_2.length : Int) == 0) = false := by simpa using c26))
        (try (have c26b3 : ¬ ((l0_2.length : Int) = 0) := by simpa using c26))
        clear c26
        obtain rfl := Option.some.inj H
        have hcz35_0 : wc.cell? ⟨gb258, 0, none⟩ = some (.int .i64 a0_0) := (blk_cell BK258.out 0).trans rfl
        have hcz35_1 : wc.cell? ⟨gb258, 1, none⟩ = some (.slice A0_1 l0_1.length c0_1) := (blk_cell BK258.out 1).trans rfl
        have hcz35_2 : wc.cell? ⟨gb258, 2, none⟩ = some (.slice A0_2 l0_2.length c0_2) := (blk_cell BK258.out 2).trans rfl
        have hcz35_3 : wc.cell? ⟨gb258, 3, none⟩ = some (.string a0_3) := (blk_cell BK258.out 3).trans rfl
        have hcz35_4 : wc.cell? ⟨gb258, 4, none⟩ = some (.int .i64 a0_4) := (blk_cell BK258.out 4).trans rfl
        have hfz35_0 := blk_frozen BK258.out 0
        have hfz35_1 := blk_frozen BK258.out 1
        have hfz35_2 := blk_frozen BK258.out 2
        have hfz35_3 := blk_frozen BK258.out 3
        have hfz35_4 := blk_frozen BK258.out 4
        go_wp2
        go_ret
        exact ⟨by first | rfl | (simp [errW_none, errW_some] <;> rfl) | (simp [*, errW_none, errW_some] <;> rfl), by repeat (first | (with_reducible first | exact HB.out | apply below_alloc | apply pw_below_drewN | apply below_drew1 | refine below_set ?_ GE258.out) | exact HB.out)⟩
      rw [if_pos c26] at H
      have c26b0 : ((l0_2.length : Int) == 0) = true := c26
      (try (have c26b1 : decide ((l0_2.length : Int) = 0) = true := by simpa using c26))
      (try (have c26b2 : ((l0_2.length : Int) == 0) = true := by simpa using c26))
      clear c26
      by_cases c27 : (a0_3.size : Int) ≥ 1
      rotate_left
      · rw [if_neg c27] at H
        have c27b0 : decide (1 ≤ (a0_3.size : Int)) = false := decide_eq_false c27
        have c27b1 : decide (1 ≤ a0_3.size) = false := decide_eq_false (by omega)
        clear c27
        obtain rfl := Option.some.inj H
        have hcz34_0 : wc.cell? ⟨gb258, 0, none⟩ = some (.int .i64 a0_0) := (blk_cell BK258.out 0).trans rfl
        have hcz34_1 : wc.cell? ⟨gb258, 1, none⟩ = some (.slice A0_1 l0_1.length c0_1) := (blk_cell BK258.out 1).trans rfl
        have hcz34_2 : wc.cell? ⟨gb258, 2, none⟩ = some (.slice A0_2 l0_2.length c0_2) := (blk_cell BK258.out 2).trans rfl
        have hcz34_3 : wc.cell? ⟨gb258, 3, none⟩ = some (.string a0_3) := (blk_cell BK258.out 3).trans rfl
        have hcz34_4 : wc.cell? ⟨gb258, 4, none⟩ = some (.int .i64 a0_4) := (blk_cell BK258.out 4).trans rfl
        have hfz34_0 := blk_frozen BK258.out 0
        have hfz34_1 := blk_frozen BK258.out 1
        have hfz34_2 := blk_frozen BK258.out 2
        have hfz34_3 := blk_frozen BK258.out 3
        have hfz34_4 := blk_frozen BK258.out 4
        go_wp2
        go_ret
        exact ⟨by first | rfl | (simp [errW_none, errW_some] <;> rfl) | (simp [*, errW_none, errW_some] <;> rfl), by repeat (first | (with_reducible first | exact HB.out | apply below_alloc | apply pw_below_drewN | apply below_drew1 | refine below_set ?_ GE258.out) | exact HB.out)⟩
      rw [if_pos c27] at H
      have c27b0 := decide_eq_true c27
      have c27b1 : decide (1 ≤ a0_3.size) = true := decide_eq_true (by omega)
      clear c27
      by_cases c28 : (a0_3.size : Int) ≤ 240
      rotate_left
      · rw [if_neg c28] at H
        have c28b0 : decide ((a0_3.size : Int) ≤ 240) = false := decide_eq_false c28
        have c28b1 : decide (a0_3.size ≤ 240) = false := decide_eq_false (by omega)
        clear c28
        obtain rfl := Option.some.inj H
        have hcz33_0 : wc.cell? ⟨gb258, 0, none⟩ = some (.int .i64 a0_0) := (blk_cell BK258.out 0).trans rfl
        have hcz33_1 : wc.cell? ⟨gb258, 1, none⟩ = some (.slice A0_1 l0_1.length c0_1) := (blk_cell BK258.out 1).trans rfl
        have hcz33_2 : wc.cell? ⟨gb258, 2, none⟩ = some (.slice A0_2 l0_2.length c0_2) := (blk_cell BK258.out 2).trans rfl
        have hcz33_3 : wc.cell? ⟨gb258, 3, none⟩ = some (.string a0_3) := (blk_cell BK258.out 3).trans rfl
        have hcz33_4 : wc.cell? ⟨gb258, 4, none⟩ = some (.int .i64 a0_4) := (blk_cell BK258.out 4).trans rfl
        have hfz33_0 := blk_frozen BK258.out 0
        have hfz33_1 := blk_frozen BK258.out 1
        have hfz33_2 := blk_frozen BK258.out 2
        have hfz33_3 := blk_frozen BK258.out 3
        have hfz33_4 := blk_frozen BK258.out 4
        go_wp2
        go_ret
        exact ⟨by first | rfl | (simp [errW_none, errW_some] <;> rfl) | (simp [*, errW_none, errW_some] <;> rfl), by repeat (first | (with_reducible first | exact HB.out | apply below_alloc | apply pw_below_drewN | apply below_drew1 | refine below_set ?_ GE258.out) | exact HB.out)⟩
      rw [if_pos c28] at H
      have c28b0 := decide_eq_true c28
      have c28b1 : decide (a0_3.size ≤ 240) = true := decide_eq_true (by omega)
      clear c28
      by_cases c29 : a0_4 = 0
      · rw [if_pos c29] at H
        have c29b0 : (a0_4 == 0) = true := beq_iff_eq.mpr c29
        have c29b1 : (a0_4 != 0) = false := bne_eq_false_iff_eq.mpr c29
        clear c29
        obtain rfl := Option.some.inj H
        have hcz30_0 : wc.cell? ⟨gb258, 0, none⟩ = some (.int .i64 a0_0) := (blk_cell BK258.out 0).trans rfl
        have hcz30_1 : wc.cell? ⟨gb258, 1, none⟩ = some (.slice A0_1 l0_1.length c0_1) := (blk_cell BK258.out 1).trans rfl
        have hcz30_2 : wc.cell? ⟨gb258, 2, none⟩ = some (.slice A0_2 l0_2.length c0_2) := (blk_cell BK258.out 2).trans rfl
        have hcz30_3 : wc.cell? ⟨gb258, 3, none⟩ = some (.string a0_3) := (blk_cell BK258.out 3).trans rfl
        have hcz30_4 : wc.cell? ⟨gb258, 4, none⟩ = some (.int .i64 a0_4) := (blk_cell BK258.out 4).trans rfl
        have hfz30_0 := blk_frozen BK258.out 0
        have hfz30_1 := blk_frozen BK258.out 1
        have hfz30_2 := blk_frozen BK258.out 2
        have hfz30_3 := blk_frozen BK258.out 3
        have hfz30_4 := blk_frozen BK258.out 4
        go_wp2
        go_ret
        exact ⟨by first | rfl | (simp [errW_none, errW_some] <;> rfl) | (simp [*, errW_none, errW_some] <;> rfl), by repeat (first | (with_reducible first | exact HB.out | apply below_alloc | apply pw_below_drewN | apply below_drew1 | refine below_set ?_ GE258.out) | exact HB.out)⟩
      rw [if_neg c29] at H
      have c29b0 : (a0_4 == 0) = false := beq_eq_false_iff_ne.mpr c29
      have c29b1 : (a0_4 != 0) = true := bne_iff_ne.mpr c29
      replace H := Option.bind_eq_some_iff.mp H
      obtain ⟨t261, A310, H⟩ := H
      replace H : (some t261) = some r := H
      have A31 := Aside0.mk A310
      clear A310
      obtain rfl := Option.some.inj H
      have hcz32_0 : wc.cell? ⟨gb258, 0, none⟩ = some (.int .i64 a0_0) := (blk_cell BK258.out 0).trans rfl
      have hcz32_1 : wc.cell? ⟨gb258, 1, none⟩ = some (.slice A0_1 l0_1.length c0_1) := (blk_cell BK258.out 1).trans rfl
      have hcz32_2 : wc.cell? ⟨gb258, 2, none⟩ = some (.slice A0_2 l0_2.length c0_2) := (blk_cell BK258.out 2).trans rfl
      have hcz32_3 : wc.cell? ⟨gb258, 3, none⟩ = some (.string a0_3) := (blk_cell BK258.out 3).trans rfl
      have hcz32_4 : wc.cell? ⟨gb258, 4, none⟩ = some (.int .i64 a0_4) := (blk_cell BK258.out 4).trans rfl
      have hfz32_0 := blk_frozen BK258.out 0
      have hfz32_1 := blk_frozen BK258.out 1
      have hfz32_2 := blk_frozen BK258.out 2
      have hfz32_3 := blk_frozen BK258.out 3
      have hfz32_4 := blk_frozen BK258.out 4
      go_wp2_with (first | (go_at_call 38; (with_reducible refine (sapwoodref04_Number.calls a0_4 t261 _ A31.out).mono ?_); rintro e w' ⟨rfl, ⟨nd, rfl⟩⟩))
      go_ret
      exact ⟨by first | rfl | (simp [errW_none, errW_some] <;> rfl) | (simp [*, errW_none, errW_some] <;> rfl), by repeat (first | (with_reducible first | exact HB.out | apply below_alloc | apply pw_below_drewN | apply below_drew1 | refine below_set ?_ GE258.out) | exact HB.out)⟩
def sapwoodref01_Number.l0 : Nat → Int → Int → ByteArray → Int → Option (ByteArray)
  | 0, _, _, _, _ => none
  | k + 1, x0, x1, x5, x6 => if x6 < x1 then ((some (([(Go.bits .and .i64 x0 255) % 256] : List Int) : List Int)).bind fun y262 => (if (strOfNums y262).size + x5.size ≤ 9223372036854775807 then (sapwoodref01_Number.l0 k (x0 / 256) x1 ((strOfNums y262) ++ x5) (wrap64 (x6 + 1))) else (none))) else (some x5)
def sapwoodref01_Number.f (k : Nat) (a0 : Int) (a1 : Int) : Option (ByteArray) := sapwoodref01_Number.l0 k a0 a1 (⟨#[]⟩ : ByteArray) 0
set_option maxHeartbeats 8000000 in
set_option maxRecDepth 100000 in
theorem sapwoodref01_Number.calls (k : Nat) (a0 : Int) (a1 : Int) (r : ByteArray) (w : World) (h : sapwoodref01_Number.f k a0 a1 = some r) :
    Calls Try.prog 51 #[.int .i64 a0, .int .i64 a1] w fun e w' => e = .returned (.string r) ∧ Below w.heap.size w w' := by
  have HB := Aside0.mk (Below.refl w.heap.size w)
  have H : (sapwoodref01_Number.l0 k a0 a1 (⟨#[]⟩ : ByteArray) 0) = some r := h
  clear h
  have H' := Aside0.mk H
  clear H
  go_enter Try.func51, Try.ntmps51
  go_wp2
  go_loopg [0, 5, 6] k (fun kq v0 v5 v6 w' => ∃ (x0_1 : Int) (x5_1 : ByteArray) (x6_1 : Int), v0 = .int .i64 x0_1 ∧ v5 = .string x5_1 ∧ v6 = .int .i64 x6_1 ∧ Aside0 (sapwoodref01_Number.l0 kq x0_1 a1 x5_1 x6_1 = some r) ∧ Aside0 (kq ≤ k) ∧ Aside0 (Below w.heap.size w w'))
  case atStart => exact ⟨(a0), ((⟨#[]⟩ : ByteArray)), (0), (by first | rfl | (simp; done) | (simp [*]; done)), (by first | rfl | (simp; done) | (simp [*]; done)), (by first | rfl | (simp; done) | (simp [*]; done)), H', ⟨Nat.le_refl _⟩, ⟨by repeat (first | (with_reducible first | exact HB.out | apply below_alloc | apply pw_below_drewN | apply below_drew1) | exact HB.out)⟩⟩
  case round =>
    clear H'
    try clear p2
    obtain ⟨x0_1, x5_1, x6_1, rfl, rfl, rfl, HA, HK1, HB⟩ := hrel
    cases gk with
    | zero => exact absurd HA.out (by simp [sapwoodref01_Number.l0])
    | succ k1 =>
      have H := HA.out
      clear HA
      simp only [sapwoodref01_Number.l0] at H
      by_cases c3 : x6_1 < a1
      rotate_left
      · rw [if_neg c3] at H
        have c3b0 : decide (x6_1 < a1) = false := decide_eq_false c3
        clear c3
        obtain rfl := Option.some.inj H
        go_wp2
        go_ret
        exact ⟨by first | rfl | (simp [errW_none, errW_some] <;> rfl) | (simp [*, errW_none, errW_some] <;> rfl), by repeat (first | (with_reducible first | exact HB.out | apply below_alloc | apply pw_below_drewN | apply below_drew1) | exact HB.out)⟩
      rw [if_pos c3] at H
      have c3b0 := decide_eq_true c3
      clear c3
      obtain ⟨y262, hy262⟩ : ∃ y_ : List Int, y_ = (([(Go.bits .and .i64 x0_1 255) % 256] : List Int)) := ⟨_, rfl⟩
      replace H : (if (strOfNums y262).size + x5_1.size ≤ 9223372036854775807 then (sapwoodref01_Number.l0 k1 (x0_1 / 256) a1 ((strOfNums y262) ++ x5_1) (wrap64 (x6_1 + 1))) else (none)) = some r := by first | (rw [hy262]; with_reducible exact H) | (have H2_ := (Option.bind_some _ _).symm.trans H; rw [hy262]; with_reducible exact H2_) | (have H2_ := (Option.bind_some _ _).symm.trans H; with_reducible exact H2_) | with_reducible exact H | (rw [hy262]; exact H) | exact H
      have Ny262 := Aside0.mk hy262
      clear hy262
      by_cases c4 : (strOfNums y262).size + x5_1.size ≤ 9223372036854775807
      rotate_left
      · rw [if_neg c4] at H
        exact absurd H (by simp)
      rw [if_pos c4] at H
      have c4b0 := eq_true c4
      have c4b1 := decide_eq_true c4
      try have c4b2 : (9223372036854775807 < (strOfNums y262).size + x5_1.size) = False := eq_false (Nat.not_lt.2 c4)
      have H' := Aside0.mk H
      clear H
      go_wp2_with (first | ((with_reducible refine gate_dst (N := 15) rfl ?_); refine Kd.R_lit (Kd.int .u8) _ 5 ?hg (N := 15) ?hd (xs := ([(Go.bits .and .i64 x0_1 255) % 256] : List Int)) (inner := [.int .u8 ((Go.bits .and .i64 x0_1 255) % 256)]) (ok := fun _ => True) (okp := fun _ => True) ?hr ?hp (fun _ hk => hk) trivial (Below.refl _ _) (Nat.le_refl _) (by simp) ?_; (case hd => rfl); (case hg => rfl); (case hr => first | (go_simp; done) | (go_simp; rfl)); (case hp => exact (Reps.one (show Kd.M (Kd.int .u8) _ _ _ ((Go.bits .and .i64 x0_1 255) % 256) [.int .u8 ((Go.bits .and .i64 x0_1 255) % 256)] from rfl) (Reps.none _ _))); intro v263 w5 ho6 hb hg_ hnew_; clear hg_ hnew_; (first | rw [← Ny262.out] at ho6 | (simp only [Int.reduceToNat] at ho6; rw [← Ny262.out] at ho6)); have n0_ := Aside0.mk (Kd.R_lower ho6 (below_size (by repeat (first | (with_reducible first | exact HB.out | apply below_alloc | apply pw_below_drewN | apply below_drew1) | exact HB.out)))); have n1_ := Aside0.mk (below_step (by repeat (first | (with_reducible first | exact HB.out | apply below_alloc | apply pw_below_drewN | apply below_drew1) | exact HB.out)) hb); clear HB; have HO264 := n0_; have HB := n1_; clear n0_ n1_; clear hb ho6; have hcv7 := own_string (P := Try.prog) Try.underlying30 Try.underlying5 Try.underlying9 (Kd.own_of_R HO264.out)))
      go_roundg k1
      case measure => have := HK1.out; omega
      case rel => exact ⟨(x0_1 / 256), ((strOfNums y262) ++ x5_1), (wrap64 (x6_1 + 1)), (by first | rfl | (simp; done) | (simp [*]; done)), (by first | rfl | (simp; done) | (simp [*]; done)), (by first | rfl | (simp; done) | (simp [*]; done)), H', ⟨by have := HK1.out; omega⟩, ⟨by repeat (first | (with_reducible first | exact HB.out | apply below_alloc | apply pw_below_drewN | apply below_drew1) | exact HB.out)⟩⟩
def sapwoodref01_Text.f (k : Nat) (a0 : ByteArray) : Option (ByteArray) := if (a0.size : Int) > 65535 then (if 0 ≤ 65535 then (if 65535 ≤ (a0.size : Int) then ((sapwoodref01_Number.f k ((a0.extract 0 65535).size : Int) 2).bind fun t265 => (if t265.size + (a0.extract 0 65535).size ≤ 9223372036854775807 then (some (t265 ++ (a0.extract 0 65535))) else (none))) else (none)) else (none)) else ((sapwoodref01_Number.f k (a0.size : Int) 2).bind fun t266 => (if t266.size + a0.size ≤ 9223372036854775807 then (some (t266 ++ a0)) else (none)))
set_option maxHeartbeats 8000000 in
set_option maxRecDepth 100000 in
theorem sapwoodref01_Text.calls (k : Nat) (a0 : ByteArray) (r : ByteArray) (w : World) (h : sapwoodref01_Text.f k a0 = some r) :
    Calls Try.prog 52 #[.string a0] w fun e w' => e = .returned (.string r) ∧ Below w.heap.size w w' := by
  have HB := Aside0.mk (Below.refl w.heap.size w)
  have H : (if (a0.size : Int) > 65535 then (if 0 ≤ 65535 then (if 65535 ≤ (a0.size : Int) then ((sapwoodref01_Number.f k ((a0.extract 0 65535).size : Int) 2).bind fun t265 => (if t265.size + (a0.extract 0 65535).size ≤ 9223372036854775807 then (some (t265 ++ (a0.extract 0 65535))) else (none))) else (none)) else (none)) else ((sapwoodref01_Number.f k (a0.size : Int) 2).bind fun t266 => (if t266.size + a0.size ≤ 9223372036854775807 then (some (t266 ++ a0)) else (none)))) = some r := h
  clear h
  by_cases c2 : (a0.size : Int) > 65535
  rotate_left
  · rw [if_neg c2] at H
    have c2b0 : decide (65535 < (a0.size : Int)) = false := decide_eq_false c2
    have c2b1 : decide (65535 < a0.size) = false := decide_eq_false (by omega)
    clear c2
    replace H := Option.bind_eq_some_iff.mp H
    obtain ⟨t266, A80, H⟩ := H
    replace H : (if t266.size + a0.size ≤ 9223372036854775807 then (some (t266 ++ a0)) else (none)) = some r := H
    have A8 := Aside0.mk A80
    clear A80
    by_cases c9 : t266.size + a0.size ≤ 9223372036854775807
    rotate_left
    · rw [if_neg c9] at H
      exact absurd H (by simp)
    rw [if_pos c9] at H
    have c9b0 := eq_true c9
    have c9b1 := decide_eq_true c9
    try have c9b2 : (9223372036854775807 < t266.size + a0.size) = False := eq_false (Nat.not_lt.2 c9)
    obtain rfl := Option.some.inj H
    go_enter Try.func52, Try.ntmps52
    go_wp2_with (first | ((with_reducible refine gate_callee (f := 51) rfl ?_); refine goesL_ (some 10) rfl rfl Try.func51 (by kernel_rfl) rfl #[.int .i64 (a0.size : Int), .int .i64 2] rfl (by (try simp only [List.map_toArray, List.map_cons, List.map_nil]); first | done | rfl | (simp only [List.length_drop, List.length_take]; rfl)) ?_; (with_reducible refine (sapwoodref01_Number.calls k (a0.size : Int) 2 t266 _ A8.out).mono ?_); rintro e w10 ⟨rfl, hb⟩; refine ⟨_, rfl, ?_⟩; have n0_ := Aside0.mk (below_step (by repeat (first | (with_reducible first | exact HB.out | apply below_alloc | apply pw_below_drewN | apply below_drew1) | exact HB.out)) hb); clear HB; have HB := n0_; clear n0_; (try clear hb); (try clear hb2); (try clear hk); (try clear hi)))
    go_ret
    exact ⟨by first | rfl | (simp [errW_none, errW_some] <;> rfl) | (simp [*, errW_none, errW_some] <;> rfl), by repeat (first | (with_reducible first | exact HB.out | apply below_alloc | apply pw_below_drewN | apply below_drew1) | exact HB.out)⟩
  rw [if_pos c2] at H
  have c2b0 := decide_eq_true c2
  have c2b1 : decide (65535 < a0.size) = true := decide_eq_true (by omega)
  clear c2
  by_cases c3 : 0 ≤ 65535
  rotate_left
  · rw [if_neg c3] at H
    exact absurd H (by simp)
  rw [if_pos c3] at H
  have c3b0 := eq_true c3
  have c3b1 := decide_eq_true c3
  clear c3
  by_cases c4 : 65535 ≤ (a0.size : Int)
  rotate_left
  · rw [if_neg c4] at H
    exact absurd H (by simp)
  rw [if_pos c4] at H
  have c4b0 := eq_true c4
  have c4b1 := decide_eq_true c4
  clear c4
  replace H := Option.bind_eq_some_iff.mp H
  obtain ⟨t265, A50, H⟩ := H
  replace H : (if t265.size + (a0.extract 0 65535).size ≤ 9223372036854775807 then (some (t265 ++ (a0.extract 0 65535))) else (none)) = some r := H
  have A5 := Aside0.mk A50
  clear A50
  by_cases c6 : t265.size + (a0.extract 0 65535).size ≤ 9223372036854775807
  rotate_left
  · rw [if_neg c6] at H
    exact absurd H (by simp)
  rw [if_pos c6] at H
  have c6b0 := eq_true c6
  have c6b1 := decide_eq_true c6
  try have c6b2 : (9223372036854775807 < t265.size + (a0.extract 0 65535).size) = False := eq_false (Nat.not_lt.2 c6)
  obtain rfl := Option.some.inj H
  go_enter Try.func52, Try.ntmps52
  go_wp2_with (first | ((with_reducible refine gate_callee (f := 51) rfl ?_); refine goesL_ (some 10) rfl rfl Try.func51 (by kernel_rfl) rfl #[.int .i64 ((a0.extract 0 65535).size : Int), .int .i64 2] rfl (by (try simp only [List.map_toArray, List.map_cons, List.map_nil]); first | done | (simp only [ByteArray.size_extract, Nat.sub_zero]; rfl) | rfl | (simp only [List.length_drop, List.length_take]; rfl)) ?_; (with_reducible refine (sapwoodref01_Number.calls k ((a0.extract 0 65535).size : Int) 2 t265 _ A5.out).mono ?_); rintro e w7 ⟨rfl, hb⟩; refine ⟨_, rfl, ?_⟩; have n0_ := Aside0.mk (below_step (by repeat (first | (with_reducible first | exact HB.out | apply below_alloc | apply pw_below_drewN | apply below_drew1) | exact HB.out)) hb); clear HB; have HB := n0_; clear n0_; (try clear hb); (try clear hb2); (try clear hk); (try clear hi)))
  go_ret
  exact ⟨by first | rfl | (simp [errW_none, errW_some] <;> rfl) | (simp [*, errW_none, errW_some] <;> rfl), by repeat (first | (with_reducible first | exact HB.out | apply below_alloc | apply pw_below_drewN | apply below_drew1) | exact HB.out)⟩
mutual
def sapwoodref02_Of.l0 : Nat → ByteArray → Int → Int → Option (Int)
  | 0, _, _, _ => none
  | k + 1, x0, x3, x4 => if x4 < (x0.size : Int) then (if 0 ≤ x4 then (sapwoodref02_Of.l1 k x0 (Go.bits .xor .i64 x3 (wrap64 ((wrap64 (bt x0 x4)) * 16777216))) x4 0) else (none)) else (some (wrap64 (4294967295 - x3)))
def sapwoodref02_Of.l1 : Nat → ByteArray → Int → Int → Int → Option (Int)
  | 0, _, _, _, _ => none
  | k + 1, x0, x3, x4, x5 => if x5 < 8 then (if (wrap64 (x3 * 2)) > 4294967295 then (sapwoodref02_Of.l1 k x0 (Go.bits .xor .i64 (wrap64 ((wrap64 (x3 * 2)) - 4294967296)) 79764919) x4 (wrap64 (x5 + 1))) else (sapwoodref02_Of.l1 k x0 (wrap64 (x3 * 2)) x4 (wrap64 (x5 + 1)))) else (sapwoodref02_Of.l0 k x0 x3 (wrap64 (x4 + 1)))
end
def sapwoodref02_Of.f (k : Nat) (a0 : ByteArray) : Option (Int) := sapwoodref02_Of.l0 k a0 4294967295 0
set_option maxHeartbeats 8000000 in
set_option maxRecDepth 100000 in
theorem sapwoodref02_Of.calls (k : Nat) (a0 : ByteArray) (r : Int) (w : World) (h : sapwoodref02_Of.f k a0 = some r) :
    Calls Try.prog 56 #[.string a0] w fun e w' => e = .returned (.int .i64 r) ∧ Drawn0 w w' := by
  have H : (sapwoodref02_Of.l0 k a0 4294967295 0) = some r := h
  clear h
  have H' := Aside0.mk H
  clear H
  go_enter Try.func56, Try.ntmps56
  go_wp2
  go_loopg [3, 4] k (fun kq v3 v4 w' => ∃ (x3_1 : Int) (x4_1 : Int), v3 = .int .i64 x3_1 ∧ v4 = .int .i64 x4_1 ∧ Aside0 (sapwoodref02_Of.l0 kq a0 x3_1 x4_1 = some r) ∧ Aside0 (kq ≤ k) ∧ Drawn0 w w')
  case atStart => exact ⟨(4294967295), (0), (by first | rfl | (simp; done) | (simp [*]; done)), (by first | rfl | (simp; done) | (simp [*]; done)), H', ⟨Nat.le_refl _⟩, by repeat (first | exact Drawn0.refl _ | apply Drawn0.step)⟩
  case round =>
    clear H'
    obtain ⟨x3_1, x4_1, rfl, rfl, HA, HK1, ⟨m1, rfl⟩⟩ := hrel
    cases gk with
    | zero => exact absurd HA.out (by simp [sapwoodref02_Of.l0])
    | succ k1 =>
      have H := HA.out
      clear HA
      simp only [sapwoodref02_Of.l0] at H
      by_cases c2 : x4_1 < (a0.size : Int)
      rotate_left
      · rw [if_neg c2] at H
        have c2b0 : decide (x4_1 < (a0.size : Int)) = false := decide_eq_false c2
        clear c2
        obtain rfl := Option.some.inj H
        go_wp2
        go_ret
        exact ⟨by first | rfl | (simp; done) | (simp [*]; done), by repeat (first | exact Drawn0.refl _ | apply Drawn0.step)⟩
      rw [if_pos c2] at H
      have c2b0 := decide_eq_true c2
      clear c2
      by_cases c3 : 0 ≤ x4_1
      rotate_left
      · rw [if_neg c3] at H
        exact absurd H (by simp)
      rw [if_pos c3] at H
      have c3b0 := decide_eq_true c3
      clear c3
      have H' := Aside0.mk H
      clear H
      have p4 : 0 ≤ (x4_1 : Int) := of_decide_eq_true (by first | (with_reducible assumption) | assumption)
      have q4 : x4_1 < (a0.size : Int) := of_decide_eq_true (by first | (with_reducible assumption) | assumption)
      have hx4 := bt_at a0 x4_1
      replace p4 := eq_true p4
      replace q4 := eq_true q4
      go_wp2
      go_loopg [3, 5] k1 (fun kq v3 v5 w' => ∃ (x3_2 : Int) (x5_2 : Int), v3 = .int .i64 x3_2 ∧ v5 = .int .i64 x5_2 ∧ Aside0 (sapwoodref02_Of.l1 kq a0 x3_2 x4_1 x5_2 = some r) ∧ Aside0 (kq ≤ k1) ∧ Drawn0 w w')
      case atStart => exact ⟨(Go.bits .xor .i64 x3_1 (wrap64 ((wrap64 (bt a0 x4_1)) * 16777216))), (0), (by first | rfl | (simp; done) | (simp [*]; done)), (by first | rfl | (simp; done) | (simp [*]; done)), H', ⟨Nat.le_refl _⟩, by repeat (first | exact Drawn0.refl _ | apply Drawn0.step)⟩
      case round =>
        clear H'
        try clear c2
        try clear c2b0
        try clear p2
        try clear c3
        try clear c3b0
        try clear p4
        try clear q4
        try clear hx4
        try clear p4
        try clear q4
        obtain ⟨x3_2, x5_2, rfl, rfl, HA, HK2, ⟨m2, rfl⟩⟩ := hrel
        cases gk with
        | zero => exact absurd HA.out (by simp [sapwoodref02_Of.l1])
        | succ k2 =>
          have H := HA.out
          clear HA
          simp only [sapwoodref02_Of.l1] at H
          by_cases c5 : x5_2 < 8
          rotate_left
          · rw [if_neg c5] at H
            have c5b0 : decide (x5_2 < 8) = false := decide_eq_false c5
            clear c5
            have H' := Aside0.mk H
            clear H
            go_wp2
            go_roundg k2
            case measure => have := HK1.out; have := HK2.out; omega
            case rel => exact ⟨(x3_2), (wrap64 (x4_1 + 1)), (by first | rfl | (simp; done) | (simp [*]; done)), (by first | rfl | (simp; done) | (simp [*]; done)), H', ⟨by have := HK1.out; have := HK2.out; omega⟩, by repeat (first | exact Drawn0.refl _ | apply Drawn0.step)⟩
          rw [if_pos c5] at H
          have c5b0 := decide_eq_true c5
          clear c5
          by_cases c6 : (wrap64 (x3_2 * 2)) > 4294967295
          rotate_left
          · rw [if_neg c6] at H
            have c6b0 : decide (4294967295 < (wrap64 (x3_2 * 2))) = false := decide_eq_false c6
            clear c6
            have H' := Aside0.mk H
            clear H
            go_wp2
            go_roundg k2
            case measure => have := HK1.out; have := HK2.out; omega
            case rel => exact ⟨(wrap64 (x3_2 * 2)), (wrap64 (x5_2 + 1)), (by first | rfl | (simp; done) | (simp [*]; done)), (by first | rfl | (simp; done) | (simp [*]; done)), H', ⟨by have := HK1.out; have := HK2.out; omega⟩, by repeat (first | exact Drawn0.refl _ | apply Drawn0.step)⟩
          rw [if_pos c6] at H
          have c6b0 := decide_eq_true c6
          clear c6
          have H' := Aside0.mk H
          clear H
          go_wp2
          go_roundg k2
          case measure => have := HK1.out; have := HK2.out; omega
          case rel => exact ⟨(Go.bits .xor .i64 (wrap64 ((wrap64 (x3_2 * 2)) - 4294967296)) 79764919), (wrap64 (x5_2 + 1)), (by first | rfl | (simp; done) | (simp [*]; done)), (by first | rfl | (simp; done) | (simp [*]; done)), H', ⟨by have := HK1.out; have := HK2.out; omega⟩, by repeat (first | exact Drawn0.refl _ | apply Drawn0.step)⟩
def sapwoodref02_Seal.f (k : Nat) (a0 : ByteArray) : Option (ByteArray) := (sapwoodref02_Of.f k a0).bind fun t267 => ((some (([(wrap64 (Int.tdiv t267 16777216)) % 256, (Int.tmod (wrap64 (Int.tdiv t267 65536)) 256) % 256, (Int.tmod (wrap64 (Int.tdiv t267 256)) 256) % 256, (Int.tmod t267 256) % 256] : List Int) : List Int)).bind fun y268 => (if a0.size + (strOfNums y268).size ≤ 9223372036854775807 then (some (a0 ++ (strOfNums y268))) else (none)))
set_option maxHeartbeats 8000000 in
set_option maxRecDepth 100000 in
theorem sapwoodref02_Seal.calls (k : Nat) (a0 : ByteArray) (r : ByteArray) (w : World) (h : sapwoodref02_Seal.f k a0 = some r) :
    Calls Try.prog 53 #[.string a0] w fun e w' => e = .returned (.string r) ∧ Below w.heap.size w w' := by
  have HB := Aside0.mk (Below.refl w.heap.size w)
  have H : ((sapwoodref02_Of.f k a0).bind fun t267 => ((some (([(wrap64 (Int.tdiv t267 16777216)) % 256, (Int.tmod (wrap64 (Int.tdiv t267 65536)) 256) % 256, (Int.tmod (wrap64 (Int.tdiv t267 256)) 256) % 256, (Int.tmod t267 256) % 256] : List Int) : List Int)).bind fun y268 => (if a0.size + (strOfNums y268).size ≤ 9223372036854775807 then (some (a0 ++ (strOfNums y268))) else (none)))) = some r := h
  clear h
  replace H := Option.bind_eq_some_iff.mp H
  obtain ⟨t267, A20, H⟩ := H
  replace H : ((some (([(wrap64 (Int.tdiv t267 16777216)) % 256, (Int.tmod (wrap64 (Int.tdiv t267 65536)) 256) % 256, (Int.tmod (wrap64 (Int.tdiv t267 256)) 256) % 256, (Int.tmod t267 256) % 256] : List Int) : List Int)).bind fun y268 => (if a0.size + (strOfNums y268).size ≤ 9223372036854775807 then (some (a0 ++ (strOfNums y268))) else (none))) = some r := H
  have A2 := Aside0.mk A20
  clear A20
  obtain ⟨y268, hy268⟩ : ∃ y_ : List Int, y_ = (([(wrap64 (Int.tdiv t267 16777216)) % 256, (Int.tmod (wrap64 (Int.tdiv t267 65536)) 256) % 256, (Int.tmod (wrap64 (Int.tdiv t267 256)) 256) % 256, (Int.tmod t267 256) % 256] : List Int)) := ⟨_, rfl⟩
  replace H : (if a0.size + (strOfNums y268).size ≤ 9223372036854775807 then (some (a0 ++ (strOfNums y268))) else (none)) = some r := by first | (rw [hy268]; with_reducible exact H) | (have H2_ := (Option.bind_some _ _).symm.trans H; rw [hy268]; with_reducible exact H2_) | (have H2_ := (Option.bind_some _ _).symm.trans H; with_reducible exact H2_) | with_reducible exact H | (rw [hy268]; exact H) | exact H
  have Ny268 := Aside0.mk hy268
  clear hy268
  by_cases c3 : a0.size + (strOfNums y268).size ≤ 9223372036854775807
  rotate_left
  · rw [if_neg c3] at H
    exact absurd H (by simp)
  rw [if_pos c3] at H
  have c3b0 := eq_true c3
  have c3b1 := decide_eq_true c3
  try have c3b2 : (9223372036854775807 < a0.size + (strOfNums y268).size) = False := eq_false (Nat.not_lt.2 c3)
  obtain rfl := Option.some.inj H
  go_enter Try.func53, Try.ntmps53
  go_wp2_with (first | ((with_reducible refine gate_callee (f := 56) rfl ?_); refine goesL_ (some 5) rfl rfl Try.func56 (by kernel_rfl) rfl #[.string a0] rfl (by (try simp only [List.map_toArray, List.map_cons, List.map_nil]); first | done | rfl | (simp only [List.length_drop, List.length_take]; rfl)) ?_; (with_reducible refine (sapwoodref02_Of.calls k a0 t267 _ A2.out).mono ?_); rintro e w' ⟨rfl, ⟨nd, rfl⟩⟩; refine ⟨_, rfl, ?_⟩) | ((with_reducible refine gate_dst (N := 21) rfl ?_); refine Kd.R_lit (Kd.int .u8) _ 5 ?hg (N := 21) ?hd (xs := ([(wrap64 (Int.tdiv t267 16777216)) % 256, (Int.tmod (wrap64 (Int.tdiv t267 65536)) 256) % 256, (Int.tmod (wrap64 (Int.tdiv t267 256)) 256) % 256, (Int.tmod t267 256) % 256] : List Int)) (inner := [.int .u8 ((wrap64 (Int.tdiv t267 16777216)) % 256), .int .u8 ((Int.tmod (wrap64 (Int.tdiv t267 65536)) 256) % 256), .int .u8 ((Int.tmod (wrap64 (Int.tdiv t267 256)) 256) % 256), .int .u8 ((Int.tmod t267 256) % 256)]) (ok := fun _ => True) (okp := fun _ => True) ?hr ?hp (fun _ hk => hk) trivial (Below.refl _ _) (Nat.le_refl _) (by simp) ?_; (case hd => rfl); (case hg => rfl); (case hr => first | (go_simp; done) | (go_simp; rfl)); (case hp => exact (Reps.one (show Kd.M (Kd.int .u8) _ _ _ ((wrap64 (Int.tdiv t267 16777216)) % 256) [.int .u8 ((wrap64 (Int.tdiv t267 16777216)) % 256)] from rfl) (Reps.one (show Kd.M (Kd.int .u8) _ _ _ ((Int.tmod (wrap64 (Int.tdiv t267 65536)) 256) % 256) [.int .u8 ((Int.tmod (wrap64 (Int.tdiv t267 65536)) 256) % 256)] from rfl) (Reps.one (show Kd.M (Kd.int .u8) _ _ _ ((Int.tmod (wrap64 (Int.tdiv t267 256)) 256) % 256) [.int .u8 ((Int.tmod (wrap64 (Int.tdiv t267 256)) 256) % 256)] from rfl) (Reps.one (show Kd.M (Kd.int .u8) _ _ _ ((Int.tmod t267 256) % 256) [.int .u8 ((Int.tmod t267 256) % 256)] from rfl) (Reps.none _ _)))))); intro v269 w4 ho5 hb hg_ hnew_; clear hg_ hnew_; (first | rw [← Ny268.out] at ho5 | (simp only [Int.reduceToNat] at ho5; rw [← Ny268.out] at ho5)); have n0_ := Aside0.mk (Kd.R_lower ho5 (below_size (by repeat (first | (with_reducible first | exact HB.out | apply below_alloc | apply pw_below_drewN | apply below_drew1) | exact HB.out)))); have n1_ := Aside0.mk (below_step (by repeat (first | (with_reducible first | exact HB.out | apply below_alloc | apply pw_below_drewN | apply below_drew1) | exact HB.out)) hb); clear HB; have HO270 := n0_; have HB := n1_; clear n0_ n1_; clear hb ho5; have hcv6 := own_string (P := Try.prog) Try.underlying30 Try.underlying5 Try.underlying9 (Kd.own_of_R HO270.out)))
  go_ret
  exact ⟨by first | rfl | (simp [errW_none, errW_some] <;> rfl) | (simp [*, errW_none, errW_some] <;> rfl), by repeat (first | (with_reducible first | exact HB.out | apply below_alloc | apply pw_below_drewN | apply below_drew1) | exact HB.out)⟩
end Go.Proofs.Ytgbcfkcnoncgdaa.Sp
