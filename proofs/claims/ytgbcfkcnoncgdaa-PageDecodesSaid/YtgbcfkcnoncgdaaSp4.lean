import Derived.Test.YtgbcfkcnoncgdaaSp0
import Derived.Test.YtgbcfkcnoncgdaaSp3
namespace Go.Proofs.Ytgbcfkcnoncgdaa.Sp
open Go.Proofs.Ytgbcfkcnoncgdaa.Hand
open Go.RowKit Go.Proofs.YtgbcfkcnoncgdaaW.PrintWords Go.Proofs.YtgbcfkcnoncgdaaW.PrintLast Go.Proofs.YtgbcfkcnoncgdaaW.PrintMore
attribute [local go_sem] max2_int min2_int max_two min_two max_three min_three max_four min_four
set_option linter.unusedVariables false
set_option linter.unusedSimpArgs false
def page_Right.j0 : Nat → Bool → Int → List (S57) → List (S61) → ByteArray → Int → Option (Bool)
  | 0, _, _, _, _, _, _ => none
  | k + 1, x3, x113000, x113001, x113002, x113003, x113004 => if x113000 = 1 then (if x3 = true then (if (x113002.length : Int) = 0 then ((page_cells.f k x113001).bind fun t113 => (some t113)) else (some false)) else (some false)) else (if x113000 = 2 then (if x3 = true then (if (x113001.length : Int) = 0 then ((page_kids.f k x113002).bind fun t114 => (some t114)) else (some false)) else (some false)) else (if x113000 = 3 then (if (wrap64 ((x113001.length : Int) + (x113002.length : Int))) = 0 then (if x113003.toList = ([] : List UInt8) then (some false) else (if (x113003.size : Int) ≤ 240 then (if x113004 = 0 then (some true) else ((page_number.f x113004).bind fun t115 => (some t115))) else (some false))) else (some false)) else (some false)))
def page_Right.f (k : Nat) (a0_0 : Int) (l0_1 : List (S57)) (l0_2 : List (S61)) (a0_3 : ByteArray) (a0_4 : Int) : Option (Bool) := if a0_3.toList = ([] : List UInt8) then (page_Right.j0 k (a0_4 == 0) a0_0 l0_1 l0_2 a0_3 a0_4) else (page_Right.j0 k false a0_0 l0_1 l0_2 a0_3 a0_4)
theorem page_Right.mono_l : ∀ k, (∀ y0 y1 y2 y3 y4 y5, LeO (page_Right.j0 k y0 y1 y2 y3 y4 y5) (page_Right.j0 (k + 1) y0 y1 y2 y3 y4 y5))
  | 0 => fun _ _ _ _ _ _ r h => by simp [page_Right.j0] at h
  | k + 1 => by
    have ih0 := page_Right.mono_l k
    · intro y0 y1 y2 y3 y4 y5
      unfold page_Right.j0
      repeat' first
      | (with_reducible exact ih0 _ _ _ _ _ _)
      | (with_reducible exact page_cells.mono _ _)
      | (with_reducible exact page_kids.mono _ _)
      | (with_reducible exact LeO.refl _)
      | (with_reducible exact LeO.none _)
      | (with_reducible refine LeO.ite ?_ ?_)
      | (with_reducible refine LeO.bind ?_ (fun _ => ?_))
      | exact ih0 _ _ _ _ _ _
      | exact page_cells.mono _ _
      | exact page_kids.mono _ _
      | exact LeO.none _
      | refine LeO.ite ?_ ?_
      | refine LeO.bind ?_ (fun _ => ?_)
theorem page_Right.mono : ∀ a0 a1 a2 a3 a4 k, LeO (page_Right.f k a0 a1 a2 a3 a4) (page_Right.f (k + 1) a0 a1 a2 a3 a4) := by
  intro a0 a1 a2 a3 a4 k
  have ih0 := page_Right.mono_l k
  unfold page_Right.f
  repeat' first
      | (with_reducible exact ih0 _ _ _ _ _ _)
      | (with_reducible exact page_cells.mono _ _)
      | (with_reducible exact page_kids.mono _ _)
      | (with_reducible exact LeO.refl _)
      | (with_reducible exact LeO.none _)
      | (with_reducible refine LeO.ite ?_ ?_)
      | (with_reducible refine LeO.bind ?_ (fun _ => ?_))
      | exact ih0 _ _ _ _ _ _
      | exact page_cells.mono _ _
      | exact page_kids.mono _ _
      | exact LeO.none _
      | refine LeO.ite ?_ ?_
      | refine LeO.bind ?_ (fun _ => ?_)
set_option maxHeartbeats 8000000 in
set_option maxRecDepth 100000 in
theorem page_Right.calls (k : Nat) (a0_0 : Int) (A0_1 : Option Addr) (c0_1 : Nat) (l0_1 : List (S57)) (A0_2 : Option Addr) (c0_2 : Nat) (l0_2 : List (S61)) (a0_3 : ByteArray) (a0_4 : Int) (r : Bool) (w : World) (hr0_1 : Kd.C k57 w A0_1 l0_1.length l0_1) (hc0_1 : l0_1.length ≤ c0_1) (hr0_2 : Kd.C k61 w A0_2 l0_2.length l0_2) (hc0_2 : l0_2.length ≤ c0_2) (h : page_Right.f k a0_0 l0_1 l0_2 a0_3 a0_4 = some r) :
    Calls Try.prog 14 #[.agg #[.int .i64 a0_0, .slice A0_1 l0_1.length c0_1, .slice A0_2 l0_2.length c0_2, .string a0_3, .int .i64 a0_4]] w fun e w' => e = .returned (.bool r) ∧ Below w.heap.size w w' := by
  have hu26 := Try.underlying26
  have HR0_1 := Aside0.mk hr0_1
  have HC0_1 := Aside0.mk hc0_1
  clear hr0_1 hc0_1
  have HR0_2 := Aside0.mk hr0_2
  have HC0_2 := Aside0.mk hc0_2
  clear hr0_2 hc0_2
  have HB := Aside0.mk (Below.refl w.heap.size w)
  have H : (if a0_3.toList = ([] : List UInt8) then (page_Right.j0 k (a0_4 == 0) a0_0 l0_1 l0_2 a0_3 a0_4) else (page_Right.j0 k false a0_0 l0_1 l0_2 a0_3 a0_4)) = some r := h
  clear h
  have HC2 := Aside0.mk H
  clear H
  go_enter Try.func14, Try.ntmps14
  go_upto_region 1 with (first | ((with_reducible refine gate_dst (N := 1) rfl ?_); (try (refine gate_guard (by rfl) ?_; dsimp only)); refine box_event ?hg (N := 1) ?hd (cs := #[.int .i64 a0_0, .slice A0_1 l0_1.length c0_1, .slice A0_2 l0_2.length c0_2, .string a0_3, .int .i64 a0_4]) (t := 26) ?hr ?_; (case hd => rfl); (case hg => rfl); (case hr => first | (go_simp; done) | (go_simp; rfl)); intro gb112 hg w3 hbox hb; have n0_ := Aside0.mk (below_step (by repeat (first | (with_reducible first | exact HB.out | apply below_alloc | apply pw_below_drewN | apply below_drew1) | exact HB.out)) hb); have n1_ := Aside0.mk (hbox); have n2_ := Aside0.mk ((by rw [hg]; exact (below_size (by repeat (first | (with_reducible first | exact HB.out | apply below_alloc | apply pw_below_drewN | apply below_drew1) | exact HB.out))) : w.heap.size ≤ gb112)); have n3_ := n2_; clear HB; have HB := n0_; have BK112 := n1_; have GW112 := n2_; have GE112 := n3_; clear n0_ n1_ n2_ n3_; clear hb hbox hg))
  (try simp only [Act.put, List.setIfInBounds_toArray, List.set_cons_zero, List.set_cons_succ])
  go_cut [3] (fun v3 wc => ∃ (kq : Nat) (x3_1 : Bool), v3 = .bool x3_1 ∧ Aside0 (page_Right.j0 kq x3_1 a0_0 l0_1 l0_2 a0_3 a0_4 = some r) ∧ Aside0 (kq ≤ k) ∧ Aside0 (wc.heap[gb112]? = some (.cells #[.int .i64 a0_0, (.slice A0_1 l0_1.length c0_1), (.slice A0_2 l0_2.length c0_2), .string a0_3, .int .i64 a0_4] 26 (0, 0))) ∧ Aside0 (Below w.heap.size w wc))
  case first =>
    have H := HC2.out
    clear HC2
    by_cases c4 : a0_3.toList = ([] : List UInt8)
    rotate_left
    · rw [if_neg c4] at H
      have c4b0 : (a0_3.toList == ([] : List UInt8)) = false := beq_eq_false_iff_ne.mpr c4
      have c4b1 : (a0_3.toList != ([] : List UInt8)) = true := bne_iff_ne.mpr c4
      (first | rw [c4b0] | (simp only [i64_w, i32_w]; rw [c4b0]) | skip)
      have H' := Aside0.mk H
      clear H
      have hcz6_0 : w3.cell? ⟨gb112, 0, none⟩ = some (.int .i64 a0_0) := (blk_cell BK112.out 0).trans rfl
      have hcz6_1 : w3.cell? ⟨gb112, 1, none⟩ = some (.slice A0_1 l0_1.length c0_1) := (blk_cell BK112.out 1).trans rfl
      have hcz6_2 : w3.cell? ⟨gb112, 2, none⟩ = some (.slice A0_2 l0_2.length c0_2) := (blk_cell BK112.out 2).trans rfl
      have hcz6_3 : w3.cell? ⟨gb112, 3, none⟩ = some (.string a0_3) := (blk_cell BK112.out 3).trans rfl
      have hcz6_4 : w3.cell? ⟨gb112, 4, none⟩ = some (.int .i64 a0_4) := (blk_cell BK112.out 4).trans rfl
      have hfz6_0 := blk_frozen BK112.out 0
      have hfz6_1 := blk_frozen BK112.out 1
      have hfz6_2 := blk_frozen BK112.out 2
      have hfz6_3 := blk_frozen BK112.out 3
      have hfz6_4 := blk_frozen BK112.out 4
      go_wp2
      go_meet
      case rel => exact ⟨_, (false), (by first | rfl | (simp; done) | (simp [*]; done)), H', ⟨by first | omega | exact Nat.le_refl _⟩, ⟨by (with_reducible repeat (first | refine blk_drewN ?_ _ | refine blk_drew ?_ | refine blk_alloc ?_ _)); exact BK112.out⟩, ⟨by repeat (first | (with_reducible first | exact HB.out | apply below_alloc | apply pw_below_drewN | apply below_drew1 | refine below_set ?_ GE112.out) | exact HB.out)⟩⟩
    rw [if_pos c4] at H
    have c4b0 : (a0_3.toList == ([] : List UInt8)) = true := beq_iff_eq.mpr c4
    have c4b1 : (a0_3.toList != ([] : List UInt8)) = false := bne_eq_false_iff_eq.mpr c4
    clear c4
    (first | rw [c4b0] | (simp only [i64_w, i32_w]; rw [c4b0]) | skip)
    have H' := Aside0.mk H
    clear H
    have hcz5_0 : w3.cell? ⟨gb112, 0, none⟩ = some (.int .i64 a0_0) := (blk_cell BK112.out 0).trans rfl
    have hcz5_1 : w3.cell? ⟨gb112, 1, none⟩ = some (.slice A0_1 l0_1.length c0_1) := (blk_cell BK112.out 1).trans rfl
    have hcz5_2 : w3.cell? ⟨gb112, 2, none⟩ = some (.slice A0_2 l0_2.length c0_2) := (blk_cell BK112.out 2).trans rfl
    have hcz5_3 : w3.cell? ⟨gb112, 3, none⟩ = some (.string a0_3) := (blk_cell BK112.out 3).trans rfl
    have hcz5_4 : w3.cell? ⟨gb112, 4, none⟩ = some (.int .i64 a0_4) := (blk_cell BK112.out 4).trans rfl
    have hfz5_0 := blk_frozen BK112.out 0
    have hfz5_1 := blk_frozen BK112.out 1
    have hfz5_2 := blk_frozen BK112.out 2
    have hfz5_3 := blk_frozen BK112.out 3
    have hfz5_4 := blk_frozen BK112.out 4
    go_wp2
    go_meet
    case rel => exact ⟨_, ((a0_4 == 0)), (by first | rfl | (simp; done) | (simp [*]; done)), H', ⟨by first | omega | exact Nat.le_refl _⟩, ⟨by (with_reducible repeat (first | refine blk_drewN ?_ _ | refine blk_drew ?_ | refine blk_alloc ?_ _)); exact BK112.out⟩, ⟨by repeat (first | (with_reducible first | exact HB.out | apply below_alloc | apply pw_below_drewN | apply below_drew1 | refine below_set ?_ GE112.out) | exact HB.out)⟩⟩
  case rest =>
    clear HC2
    try clear c1
    try clear p2
    try clear c4
    try clear c4b0
    try clear c4b1
    try clear hcz5_0
    try clear hcz5_1
    try clear hcz5_2
    try clear hcz5_3
    try clear hcz5_4
    try clear hcz6_0
    try clear hcz6_1
    try clear hcz6_2
    try clear hcz6_3
    try clear hcz6_4
    try clear hfz5_0
    try clear hfz5_1
    try clear hfz5_2
    try clear hfz5_3
    try clear hfz5_4
    try clear hfz6_0
    try clear hfz6_1
    try clear hfz6_2
    try clear hfz6_3
    try clear hfz6_4
    obtain ⟨kq, x3_1, rfl, HA, HJ1, BK112, HB⟩ := hcut
    cases kq with
    | zero => exact absurd HA.out (by simp [page_Right.j0])
    | succ kj1 =>
      have H := HA.out
      clear HA
      simp only [page_Right.j0] at H
      by_cases c7 : a0_0 = 1
      · rw [if_pos c7] at H
        have c7b0 : (a0_0 == 1) = true := beq_iff_eq.mpr c7
        have c7b1 : (a0_0 != 1) = false := bne_eq_false_iff_eq.mpr c7
        clear c7
        by_cases c8 : x3_1 = true
        rotate_left
        · replace c8 := Bool.eq_false_iff.mpr c8
          subst c8
          have H1 : (some false) = some r := by rw [if_neg (show ¬ (false = true) by decide)] at H; exact H
          clear H
          have H := H1
          clear H1
          obtain rfl := Option.some.inj H
          have hcz14_0 : wc.cell? ⟨gb112, 0, none⟩ = some (.int .i64 a0_0) := (blk_cell BK112.out 0).trans rfl
          have hcz14_1 : wc.cell? ⟨gb112, 1, none⟩ = some (.slice A0_1 l0_1.length c0_1) := (blk_cell BK112.out 1).trans rfl
          have hcz14_2 : wc.cell? ⟨gb112, 2, none⟩ = some (.slice A0_2 l0_2.length c0_2) := (blk_cell BK112.out 2).trans rfl
          have hcz14_3 : wc.cell? ⟨gb112, 3, none⟩ = some (.string a0_3) := (blk_cell BK112.out 3).trans rfl
          have hcz14_4 : wc.cell? ⟨gb112, 4, none⟩ = some (.int .i64 a0_4) := (blk_cell BK112.out 4).trans rfl
          have hfz14_0 := blk_frozen BK112.out 0
          have hfz14_1 := blk_frozen BK112.out 1
          have hfz14_2 := blk_frozen BK112.out 2
          have hfz14_3 := blk_frozen BK112.out 3
          have hfz14_4 := blk_frozen BK112.out 4
          go_wp2
          go_ret
          exact ⟨by first | rfl | (simp [errW_none, errW_some] <;> rfl) | (simp [*, errW_none, errW_some] <;> rfl), by repeat (first | (with_reducible first | exact HB.out | apply below_alloc | apply pw_below_drewN | apply below_drew1 | refine below_set ?_ GE112.out) | exact HB.out)⟩
        subst c8
        have H1 : (if (l0_2.length : Int) = 0 then ((page_cells.f kj1 l0_1).bind fun t113 => (some t113)) else (some false)) = some r := by rw [if_pos rfl] at H; exact H
        clear H
        have H := H1
        clear H1
        by_cases c9 : (l0_2.length : Int) = 0
        rotate_left
        · rw [if_neg c9] at H
          have c9b0 : ((l0_2.length : Int) == 0) = false := beq_eq_false_iff_ne.mpr c9
          have c9b1 : ((l0_2.length : Int) != 0) = true := bne_iff_ne.mpr c9
          have c9b2 : ¬ (l0_2 = []) := fun h_ => c9 (by rw [h_]; rfl)
          obtain rfl := Option.some.inj H
          have hcz13_0 : wc.cell? ⟨gb112, 0, none⟩ = some (.int .i64 a0_0) := (blk_cell BK112.out 0).trans rfl
          have hcz13_1 : wc.cell? ⟨gb112, 1, none⟩ = some (.slice A0_1 l0_1.length c0_1) := (blk_cell BK112.out 1).trans rfl
          have hcz13_2 : wc.cell? ⟨gb112, 2, none⟩ = some (.slice A0_2 l0_2.length c0_2) := (blk_cell BK112.out 2).trans rfl
          have hcz13_3 : wc.cell? ⟨gb112, 3, none⟩ = some (.string a0_3) := (blk_cell BK112.out 3).trans rfl
          have hcz13_4 : wc.cell? ⟨gb112, 4, none⟩ = some (.int .i64 a0_4) := (blk_cell BK112.out 4).trans rfl
          have hfz13_0 := blk_frozen BK112.out 0
          have hfz13_1 := blk_frozen BK112.out 1
          have hfz13_2 := blk_frozen BK112.out 2
          have hfz13_3 := blk_frozen BK112.out 3
          have hfz13_4 := blk_frozen BK112.out 4
          go_wp2
          go_ret
          exact ⟨by first | rfl | (simp [errW_none, errW_some] <;> rfl) | (simp [*, errW_none, errW_some] <;> rfl), by repeat (first | (with_reducible first | exact HB.out | apply below_alloc | apply pw_below_drewN | apply below_drew1 | refine below_set ?_ GE112.out) | exact HB.out)⟩
        rw [if_pos c9] at H
        have c9b0 : ((l0_2.length : Int) == 0) = true := beq_iff_eq.mpr c9
        have c9b1 : ((l0_2.length : Int) != 0) = false := bne_eq_false_iff_eq.mpr c9
        clear c9
        replace H := Option.bind_eq_some_iff.mp H
        obtain ⟨t113, A100, H⟩ := H
        replace H : (some t113) = some r := H
        have A10 := Aside0.mk A100
        clear A100
        obtain rfl := Option.some.inj H
        have hcz11_0 : wc.cell? ⟨gb112, 0, none⟩ = some (.int .i64 a0_0) := (blk_cell BK112.out 0).trans rfl
        have hcz11_1 : wc.cell? ⟨gb112, 1, none⟩ = some (.slice A0_1 l0_1.length c0_1) := (blk_cell BK112.out 1).trans rfl
        have hcz11_2 : wc.cell? ⟨gb112, 2, none⟩ = some (.slice A0_2 l0_2.length c0_2) := (blk_cell BK112.out 2).trans rfl
        have hcz11_3 : wc.cell? ⟨gb112, 3, none⟩ = some (.string a0_3) := (blk_cell BK112.out 3).trans rfl
        have hcz11_4 : wc.cell? ⟨gb112, 4, none⟩ = some (.int .i64 a0_4) := (blk_cell BK112.out 4).trans rfl
        have hfz11_0 := blk_frozen BK112.out 0
        have hfz11_1 := blk_frozen BK112.out 1
        have hfz11_2 := blk_frozen BK112.out 2
        have hfz11_3 := blk_frozen BK112.out 3
        have hfz11_4 := blk_frozen BK112.out 4
        go_wp2_with (first | (go_at_call 32; (with_reducible refine (page_cells.calls kj1 _ _ l0_1 t113 _ ?side1 ?side2 A10.out).mono ?_); (case side1 => repeat (first | exact (Kd.C_below HR0_1.out HB.out) | (with_reducible refine Kd.C_alloc ?_ _) | (with_reducible refine Kd.C_drewN ?_ _) | (with_reducible refine Kd.C_drew ?_))); (case side2 => exact HC0_1.out); rintro e w12 ⟨rfl, hb⟩; have n0_ := Aside0.mk (blk_below (g := gb112) (o := .cells #[.int .i64 a0_0, .slice A0_1 l0_1.length c0_1, .slice A0_2 l0_2.length c0_2, .string a0_3, .int .i64 a0_4] 26 (0, 0)) (by (with_reducible repeat (first | refine blk_drewN ?_ _ | refine blk_drew ?_ | refine blk_alloc ?_ _)); exact BK112.out) hb); have n1_ := Aside0.mk (below_step (by repeat (first | (with_reducible first | exact HB.out | apply below_alloc | apply pw_below_drewN | apply below_drew1 | refine below_set ?_ GE112.out) | exact HB.out)) hb); clear BK112; clear HB; have BK112 := n0_; have HB := n1_; clear n0_ n1_; (try clear hb); (try clear hb2); (try clear hk); (try clear hi)))
        go_ret
        exact ⟨by first | rfl | (simp [errW_none, errW_some] <;> rfl) | (simp [*, errW_none, errW_some] <;> rfl), by repeat (first | (with_reducible first | exact HB.out | apply below_alloc | apply pw_below_drewN | apply below_drew1 | refine below_set ?_ GE112.out) | exact HB.out)⟩
      rw [if_neg c7] at H
      have c7b0 : (a0_0 == 1) = false := beq_eq_false_iff_ne.mpr c7
      have c7b1 : (a0_0 != 1) = true := bne_iff_ne.mpr c7
      by_cases c15 : a0_0 = 2
      · rw [if_pos c15] at H
        have c15b0 : (a0_0 == 2) = true := beq_iff_eq.mpr c15
        have c15b1 : (a0_0 != 2) = false := bne_eq_false_iff_eq.mpr c15
        clear c15
        by_cases c16 : x3_1 = true
        rotate_left
        · replace c16 := Bool.eq_false_iff.mpr c16
          subst c16
          have H1 : (some false) = some r := by rw [if_neg (show ¬ (false = true) by decide)] at H; exact H
          clear H
          have H := H1
          clear H1
          obtain rfl := Option.some.inj H
          have hcz22_0 : wc.cell? ⟨gb112, 0, none⟩ = some (.int .i64 a0_0) := (blk_cell BK112.out 0).trans rfl
          have hcz22_1 : wc.cell? ⟨gb112, 1, none⟩ = some (.slice A0_1 l0_1.length c0_1) := (blk_cell BK112.out 1).trans rfl
          have hcz22_2 : wc.cell? ⟨gb112, 2, none⟩ = some (.slice A0_2 l0_2.length c0_2) := (blk_cell BK112.out 2).trans rfl
          have hcz22_3 : wc.cell? ⟨gb112, 3, none⟩ = some (.string a0_3) := (blk_cell BK112.out 3).trans rfl
          have hcz22_4 : wc.cell? ⟨gb112, 4, none⟩ = some (.int .i64 a0_4) := (blk_cell BK112.out 4).trans rfl
          have hfz22_0 := blk_frozen BK112.out 0
          have hfz22_1 := blk_frozen BK112.out 1
          have hfz22_2 := blk_frozen BK112.out 2
          have hfz22_3 := blk_frozen BK112.out 3
          have hfz22_4 := blk_frozen BK112.out 4
          go_wp2
          go_ret
          exact ⟨by first | rfl | (simp [errW_none, errW_some] <;> rfl) | (simp [*, errW_none, errW_some] <;> rfl), by repeat (first | (with_reducible first | exact HB.out | apply below_alloc | apply pw_below_drewN | apply below_drew1 | refine below_set ?_ GE112.out) | exact HB.out)⟩
        subst c16
        have H1 : (if (l0_1.length : Int) = 0 then ((page_kids.f kj1 l0_2).bind fun t114 => (some t114)) else (some false)) = some r := by rw [if_pos rfl] at H; exact H
        clear H
        have H := H1
        clear H1
        by_cases c17 : (l0_1.length : Int) = 0
        rotate_left
        · rw [if_neg c17] at H
          have c17b0 : ((l0_1.length : Int) == 0) = false := beq_eq_false_iff_ne.mpr c17
          have c17b1 : ((l0_1.length : Int) != 0) = true := bne_iff_ne.mpr c17
          have c17b2 : ¬ (l0_1 = []) := fun h_ => c17 (by rw [h_]; rfl)
          obtain rfl := Option.some.inj H
          have hcz21_0 : wc.cell? ⟨gb112, 0, none⟩ = some (.int .i64 a0_0) := (blk_cell BK112.out 0).trans rfl
          have hcz21_1 : wc.cell? ⟨gb112, 1, none⟩ = some (.slice A0_1 l0_1.length c0_1) := (blk_cell BK112.out 1).trans rfl
          have hcz21_2 : wc.cell? ⟨gb112, 2, none⟩ = some (.slice A0_2 l0_2.length c0_2) := (blk_cell BK112.out 2).trans rfl
          have hcz21_3 : wc.cell? ⟨gb112, 3, none⟩ = some (.string a0_3) := (blk_cell BK112.out 3).trans rfl
          have hcz21_4 : wc.cell? ⟨gb112, 4, none⟩ = some (.int .i64 a0_4) := (blk_cell BK112.out 4).trans rfl
          have hfz21_0 := blk_frozen BK112.out 0
          have hfz21_1 := blk_frozen BK112.out 1
          have hfz21_2 := blk_frozen BK112.out 2
          have hfz21_3 := blk_frozen BK112.out 3
          have hfz21_4 := blk_frozen BK112.out 4
          go_wp2
          go_ret
          exact ⟨by first | rfl | (simp [errW_none, errW_some] <;> rfl) | (simp [*, errW_none, errW_some] <;> rfl), by repeat (first | (with_reducible first | exact HB.out | apply below_alloc | apply pw_below_drewN | apply below_drew1 | refine below_set ?_ GE112.out) | exact HB.out)⟩
        rw [if_pos c17] at H
        have c17b0 : ((l0_1.length : Int) == 0) = true := beq_iff_eq.mpr c17
        have c17b1 : ((l0_1.length : Int) != 0) = false := bne_eq_false_iff_eq.mpr c17
        clear c17
        replace H := Option.bind_eq_some_iff.mp H
        obtain ⟨t114, A180, H⟩ := H
        replace H : (some t114) = some r := H
        have A18 := Aside0.mk A180
        clear A180
        obtain rfl := Option.some.inj H
        have hcz19_0 : wc.cell? ⟨gb112, 0, none⟩ = some (.int .i64 a0_0) := (blk_cell BK112.out 0).trans rfl
        have hcz19_1 : wc.cell? ⟨gb112, 1, none⟩ = some (.slice A0_1 l0_1.length c0_1) := (blk_cell BK112.out 1).trans rfl
        have hcz19_2 : wc.cell? ⟨gb112, 2, none⟩ = some (.slice A0_2 l0_2.length c0_2) := (blk_cell BK112.out 2).trans rfl
        have hcz19_3 : wc.cell? ⟨gb112, 3, none⟩ = some (.string a0_3) := (blk_cell BK112.out 3).trans rfl
        have hcz19_4 : wc.cell? ⟨gb112, 4, none⟩ = some (.int .i64 a0_4) := (blk_cell BK112.out 4).trans rfl
        have hfz19_0 := blk_frozen BK112.out 0
        have hfz19_1 := blk_frozen BK112.out 1
        have hfz19_2 := blk_frozen BK112.out 2
        have hfz19_3 := blk_frozen BK112.out 3
        have hfz19_4 := blk_frozen BK112.out 4
        go_wp2_with (first | (go_at_call 33; (with_reducible refine (page_kids.calls kj1 _ _ l0_2 t114 _ ?side1 ?side2 A18.out).mono ?_); (case side1 => repeat (first | exact (Kd.C_below HR0_2.out HB.out) | (with_reducible refine Kd.C_alloc ?_ _) | (with_reducible refine Kd.C_drewN ?_ _) | (with_reducible refine Kd.C_drew ?_))); (case side2 => exact HC0_2.out); rintro e w20 ⟨rfl, hb⟩; have n0_ := Aside0.mk (blk_below (g := gb112) (o := .cells #[.int .i64 a0_0, .slice A0_1 l0_1.length c0_1, .slice A0_2 l0_2.length c0_2, .string a0_3, .int .i64 a0_4] 26 (0, 0)) (by (with_reducible repeat (first | refine blk_drewN ?_ _ | refine blk_drew ?_ | refine blk_alloc ?_ _)); exact BK112.out) hb); have n1_ := Aside0.mk (below_step (by repeat (first | (with_reducible first | exact HB.out | apply below_alloc | apply pw_below_drewN | apply below_drew1 | refine below_set ?_ GE112.out) | exact HB.out)) hb); clear BK112; clear HB; have BK112 := n0_; have HB := n1_; clear n0_ n1_; (try clear hb); (try clear hb2); (try clear hk); (try clear hi)))
        go_ret
        exact ⟨by first | rfl | (simp [errW_none, errW_some] <;> rfl) | (simp [*, errW_none, errW_some] <;> rfl), by repeat (first | (with_reducible first | exact HB.out | apply below_alloc | apply pw_below_drewN | apply below_drew1 | refine below_set ?_ GE112.out) | exact HB.out)⟩
      rw [if_neg c15] at H
      have c15b0 : (a0_0 == 2) = false := beq_eq_false_iff_ne.mpr c15
      have c15b1 : (a0_0 != 2) = true := bne_iff_ne.mpr c15
      by_cases c23 : a0_0 = 3
      rotate_left
      · rw [if_neg c23] at H
        have c23b0 : (a0_0 == 3) = false := beq_eq_false_iff_ne.mpr c23
        have c23b1 : (a0_0 != 3) = true := bne_iff_ne.mpr c23
        obtain rfl := Option.some.inj H
        have hcz34_0 : wc.cell? ⟨gb112, 0, none⟩ = some (.int .i64 a0_0) := (blk_cell BK112.out 0).trans rfl
        have hcz34_1 : wc.cell? ⟨gb112, 1, none⟩ = some (.slice A0_1 l0_1.length c0_1) := (blk_cell BK112.out 1).trans rfl
        have hcz34_2 : wc.cell? ⟨gb112, 2, none⟩ = some (.slice A0_2 l0_2.length c0_2) := (blk_cell BK112.out 2).trans rfl
        have hcz34_3 : wc.cell? ⟨gb112, 3, none⟩ = some (.string a0_3) := (blk_cell BK112.out 3).trans rfl
        have hcz34_4 : wc.cell? ⟨gb112, 4, none⟩ = some (.int .i64 a0_4) := (blk_cell BK112.out 4).trans rfl
        have hfz34_0 := blk_frozen BK112.out 0
        have hfz34_1 := blk_frozen BK112.out 1
        have hfz34_2 := blk_frozen BK112.out 2
        have hfz34_3 := blk_frozen BK112.out 3
        have hfz34_4 := blk_frozen BK112.out 4
        go_wp2
        go_ret
        exact ⟨by first | rfl | (simp [errW_none, errW_some] <;> rfl) | (simp [*, errW_none, errW_some] <;> rfl), by repeat (first | (with_reducible first | exact HB.out | apply below_alloc | apply pw_below_drewN | apply below_drew1 | refine below_set ?_ GE112.out) | exact HB.out)⟩
      rw [if_pos c23] at H
      have c23b0 : (a0_0 == 3) = true := beq_iff_eq.mpr c23
      have c23b1 : (a0_0 != 3) = false := bne_eq_false_iff_eq.mpr c23
      clear c23
      by_cases c24 : (wrap64 ((l0_1.length : Int) + (l0_2.length : Int))) = 0
      rotate_left
      · rw [if_neg c24] at H
        have c24b0 : ((wrap64 ((l0_1.length : Int) + (l0_2.length : Int))) == 0) = false := beq_eq_false_iff_ne.mpr c24
        have c24b1 : ((wrap64 ((l0_1.length : Int) + (l0_2.length : Int))) != 0) = true := bne_iff_ne.mpr c24
        obtain rfl := Option.some.inj H
        have hcz33_0 : wc.cell? ⟨gb112, 0, none⟩ = some (.int .i64 a0_0) := (blk_cell BK112.out 0).trans rfl
        have hcz33_1 : wc.cell? ⟨gb112, 1, none⟩ = some (.slice A0_1 l0_1.length c0_1) := (blk_cell BK112.out 1).trans rfl
        have hcz33_2 : wc.cell? ⟨gb112, 2, none⟩ = some (.slice A0_2 l0_2.length c0_2) := (blk_cell BK112.out 2).trans rfl
        have hcz33_3 : wc.cell? ⟨gb112, 3, none⟩ = some (.string a0_3) := (blk_cell BK112.out 3).trans rfl
        have hcz33_4 : wc.cell? ⟨gb112, 4, none⟩ = some (.int .i64 a0_4) := (blk_cell BK112.out 4).trans rfl
        have hfz33_0 := blk_frozen BK112.out 0
        have hfz33_1 := blk_frozen BK112.out 1
        have hfz33_2 := blk_frozen BK112.out 2
        have hfz33_3 := blk_frozen BK112.out 3
        have hfz33_4 := blk_frozen BK112.out 4
        go_wp2
        go_ret
        exact ⟨by first | rfl | (simp [errW_none, errW_some] <;> rfl) | (simp [*, errW_none, errW_some] <;> rfl), by repeat (first | (with_reducible first | exact HB.out | apply below_alloc | apply pw_below_drewN | apply below_drew1 | refine below_set ?_ GE112.out) | exact HB.out)⟩
      rw [if_pos c24] at H
      have c24b0 : ((wrap64 ((l0_1.length : Int) + (l0_2.length : Int))) == 0) = true := beq_iff_eq.mpr c24
      have c24b1 : ((wrap64 ((l0_1.length : Int) + (l0_2.length : Int))) != 0) = false := bne_eq_false_iff_eq.mpr c24
      clear c24
      by_cases c25 : a0_3.toList = ([] : List UInt8)
      · rw [if_pos c25] at H
        have c25b0 : (a0_3.toList == ([] : List UInt8)) = true := beq_iff_eq.mpr c25
        have c25b1 : (a0_3.toList != ([] : List UInt8)) = false := bne_eq_false_iff_eq.mpr c25
        clear c25
        obtain rfl := Option.some.inj H
        have hcz26_0 : wc.cell? ⟨gb112, 0, none⟩ = some (.int .i64 a0_0) := (blk_cell BK112.out 0).trans rfl
        have hcz26_1 : wc.cell? ⟨gb112, 1, none⟩ = some (.slice A0_1 l0_1.length c0_1) := (blk_cell BK112.out 1).trans rfl
        have hcz26_2 : wc.cell? ⟨gb112, 2, none⟩ = some (.slice A0_2 l0_2.length c0_2) := (blk_cell BK112.out 2).trans rfl
        have hcz26_3 : wc.cell? ⟨gb112, 3, none⟩ = some (.string a0_3) := (blk_cell BK112.out 3).trans rfl
        have hcz26_4 : wc.cell? ⟨gb112, 4, none⟩ = some (.int .i64 a0_4) := (blk_cell BK112.out 4).trans rfl
        have hfz26_0 := blk_frozen BK112.out 0
        have hfz26_1 := blk_frozen BK112.out 1
        have hfz26_2 := blk_frozen BK112.out 2
        have hfz26_3 := blk_frozen BK112.out 3
        have hfz26_4 := blk_frozen BK112.out 4
        go_wp2
        go_ret
        exact ⟨by first | rfl | (simp [errW_none, errW_some] <;> rfl) | (simp [*, errW_none, errW_some] <;> rfl), by repeat (first | (with_reducible first | exact HB.out | apply below_alloc | apply pw_below_drewN | apply below_drew1 | refine below_set ?_ GE112.out) | exact HB.out)⟩
      rw [if_neg c25] at H
      have c25b0 : (a0_3.toList == ([] : List UInt8)) = false := beq_eq_false_iff_ne.mpr c25
      have c25b1 : (a0_3.toList != ([] : List UInt8)) = true := bne_iff_ne.mpr c25
      by_cases c27 : (a0_3.size : Int) ≤ 240
      rotate_left
      · rw [if_neg c27] at H
        have c27b0 : decide ((a0_3.size : Int) ≤ 240) = false := decide_eq_false c27
        have c27b1 : decide (a0_3.size ≤ 240) = false := decide_eq_false (by omega)
        clear c27
        obtain rfl := Option.some.inj H
        have hcz32_0 : wc.cell? ⟨gb112, 0, none⟩ = some (.int .i64 a0_0) := (blk_cell BK112.out 0).trans rfl
        have hcz32_1 : wc.cell? ⟨gb112, 1, none⟩ = some (.slice A0_1 l0_1.length c0_1) := (blk_cell BK112.out 1).trans rfl
        have hcz32_2 : wc.cell? ⟨gb112, 2, none⟩ = some (.slice A0_2 l0_2.length c0_2) := (blk_cell BK112.out 2).trans rfl
        have hcz32_3 : wc.cell? ⟨gb112, 3, none⟩ = some (.string a0_3) := (blk_cell BK112.out 3).trans rfl
        have hcz32_4 : wc.cell? ⟨gb112, 4, none⟩ = some (.int .i64 a0_4) := (blk_cell BK112.out 4).trans rfl
        have hfz32_0 := blk_frozen BK112.out 0
        have hfz32_1 := blk_frozen BK112.out 1
        have hfz32_2 := blk_frozen BK112.out 2
        have hfz32_3 := blk_frozen BK112.out 3
        have hfz32_4 := blk_frozen BK112.out 4
        go_wp2
        go_ret
        exact ⟨by first | rfl | (simp [errW_none, errW_some] <;> rfl) | (simp [*, errW_none, errW_some] <;> rfl), by repeat (first | (with_reducible first | exact HB.out | apply below_alloc | apply pw_below_drewN | apply below_drew1 | refine below_set ?_ GE112.out) | exact HB.out)⟩
      rw [if_pos c27] at H
      have c27b0 := decide_eq_true c27
      have c27b1 : decide (a0_3.size ≤ 240) = true := decide_eq_true (by omega)
      clear c27
      by_cases c28 : a0_4 = 0
      · rw [if_pos c28] at H
        have c28b0 : (a0_4 == 0) = true := beq_iff_eq.mpr c28
        have c28b1 : (a0_4 != 0) = false := bne_eq_false_iff_eq.mpr c28
        clear c28
        obtain rfl := Option.some.inj H
        have hcz29_0 : wc.cell? ⟨gb112, 0, none⟩ = some (.int .i64 a0_0) := (blk_cell BK112.out 0).trans rfl
        have hcz29_1 : wc.cell? ⟨gb112, 1, none⟩ = some (.slice A0_1 l0_1.length c0_1) := (blk_cell BK112.out 1).trans rfl
        have hcz29_2 : wc.cell? ⟨gb112, 2, none⟩ = some (.slice A0_2 l0_2.length c0_2) := (blk_cell BK112.out 2).trans rfl
        have hcz29_3 : wc.cell? ⟨gb112, 3, none⟩ = some (.string a0_3) := (blk_cell BK112.out 3).trans rfl
        have hcz29_4 : wc.cell? ⟨gb112, 4, none⟩ = some (.int .i64 a0_4) := (blk_cell BK112.out 4).trans rfl
        have hfz29_0 := blk_frozen BK112.out 0
        have hfz29_1 := blk_frozen BK112.out 1
        have hfz29_2 := blk_frozen BK112.out 2
        have hfz29_3 := blk_frozen BK112.out 3
        have hfz29_4 := blk_frozen BK112.out 4
        go_wp2
        go_ret
        exact ⟨by first | rfl | (simp [errW_none, errW_some] <;> rfl) | (simp [*, errW_none, errW_some] <;> rfl), by repeat (first | (with_reducible first | exact HB.out | apply below_alloc | apply pw_below_drewN | apply below_drew1 | refine below_set ?_ GE112.out) | exact HB.out)⟩
      rw [if_neg c28] at H
      have c28b0 : (a0_4 == 0) = false := beq_eq_false_iff_ne.mpr c28
      have c28b1 : (a0_4 != 0) = true := bne_iff_ne.mpr c28
      replace H := Option.bind_eq_some_iff.mp H
      obtain ⟨t115, A300, H⟩ := H
      replace H : (some t115) = some r := H
      have A30 := Aside0.mk A300
      clear A300
      obtain rfl := Option.some.inj H
      have hcz31_0 : wc.cell? ⟨gb112, 0, none⟩ = some (.int .i64 a0_0) := (blk_cell BK112.out 0).trans rfl
      have hcz31_1 : wc.cell? ⟨gb112, 1, none⟩ = some (.slice A0_1 l0_1.length c0_1) := (blk_cell BK112.out 1).trans rfl
      have hcz31_2 : wc.cell? ⟨gb112, 2, none⟩ = some (.slice A0_2 l0_2.length c0_2) := (blk_cell BK112.out 2).trans rfl
      have hcz31_3 : wc.cell? ⟨gb112, 3, none⟩ = some (.string a0_3) := (blk_cell BK112.out 3).trans rfl
      have hcz31_4 : wc.cell? ⟨gb112, 4, none⟩ = some (.int .i64 a0_4) := (blk_cell BK112.out 4).trans rfl
      have hfz31_0 := blk_frozen BK112.out 0
      have hfz31_1 := blk_frozen BK112.out 1
      have hfz31_2 := blk_frozen BK112.out 2
      have hfz31_3 := blk_frozen BK112.out 3
      have hfz31_4 := blk_frozen BK112.out 4
      go_wp2_with (first | (go_at_call 34; (with_reducible refine (page_number.calls a0_4 t115 _ A30.out).mono ?_); rintro e w' ⟨rfl, ⟨nd, rfl⟩⟩))
      go_ret
      exact ⟨by first | rfl | (simp [errW_none, errW_some] <;> rfl) | (simp [*, errW_none, errW_some] <;> rfl), by repeat (first | (with_reducible first | exact HB.out | apply below_alloc | apply pw_below_drewN | apply below_drew1 | refine below_set ?_ GE112.out) | exact HB.out)⟩
def fix_put.l0 : Nat → Int → List Int → Int → Option (List Int)
  | 0, _, _, _ => none
  | k + 1, x1, x7, x8 => if x8 ≥ 0 then (if 0 ≤ (wrap64 (8 * x8)) then (if x7.length < 140737488355328 then (fix_put.l0 k x1 (x7 ++ [(shr .i64 x1 (wrap64 (8 * x8))) % 256]) (wrap64 (x8 - 1))) else (none)) else (none)) else (some x7)
def fix_put.f (k : Nat) (l0 : List Int) (a1 : Int) (a2 : Int) : Option (List Int) := if 0 ≤ (wrap64 ((l0.length : Int) + a2)) then (if (wrap64 ((l0.length : Int) + a2) : Int).toNat ≤ 281474976710656 then ((some ([] : List Int)).bind fun y116 => (if y116.length + l0.length < 140737488355328 then (fix_put.l0 k a1 (y116 ++ l0) (wrap64 (a2 - 1))) else (none))) else (none)) else (none)
theorem fix_put.mono_l : ∀ k, (∀ y0 y1 y2, LeO (fix_put.l0 k y0 y1 y2) (fix_put.l0 (k + 1) y0 y1 y2))
  | 0 => fun _ _ _ r h => by simp [fix_put.l0] at h
  | k + 1 => by
    have ih0 := fix_put.mono_l k
    · intro y0 y1 y2
      unfold fix_put.l0
      repeat' first
      | (with_reducible exact ih0 _ _ _)
      | (with_reducible exact LeO.refl _)
      | (with_reducible exact LeO.none _)
      | (with_reducible refine LeO.ite ?_ ?_)
      | (with_reducible refine LeO.bind ?_ (fun _ => ?_))
      | exact ih0 _ _ _
      | exact LeO.none _
      | refine LeO.ite ?_ ?_
      | refine LeO.bind ?_ (fun _ => ?_)
theorem fix_put.mono : ∀ a0 a1 a2 k, LeO (fix_put.f k a0 a1 a2) (fix_put.f (k + 1) a0 a1 a2) := by
  intro a0 a1 a2 k
  have ih0 := fix_put.mono_l k
  unfold fix_put.f
  repeat' first
      | (with_reducible exact ih0 _ _ _)
      | (with_reducible exact LeO.refl _)
      | (with_reducible exact LeO.none _)
      | (with_reducible refine LeO.ite ?_ ?_)
      | (with_reducible refine LeO.bind ?_ (fun _ => ?_))
      | exact ih0 _ _ _
      | exact LeO.none _
      | refine LeO.ite ?_ ?_
      | refine LeO.bind ?_ (fun _ => ?_)
set_option maxHeartbeats 8000000 in
set_option maxRecDepth 100000 in
theorem fix_put.calls (k : Nat) (A0 : Option Addr) (c0 : Nat) (l0 : List Int) (a1 : Int) (a2 : Int) (r : List Int) (w : World) (hr0 : Kd.C (Kd.int .u8) w A0 l0.length l0) (hc0 : l0.length ≤ c0) (h : fix_put.f k l0 a1 a2 = some r) :
    Calls Try.prog 47 #[.slice A0 l0.length c0, .int .i64 a1, .int .i64 a2] w fun e w' => ∃ v0_ : Value, e = .returned (v0_) ∧ Kd.R (Kd.int .u8) 5 w' w.heap.size (fun _ => True) v0_ r ∧ Below w.heap.size w w' := by
  have HR0 := Aside0.mk hr0
  have HC0 := Aside0.mk hc0
  clear hr0 hc0
  have HB := Aside0.mk (Below.refl w.heap.size w)
  have H : (if 0 ≤ (wrap64 ((l0.length : Int) + a2)) then (if (wrap64 ((l0.length : Int) + a2) : Int).toNat ≤ 281474976710656 then ((some ([] : List Int)).bind fun y116 => (if y116.length + l0.length < 140737488355328 then (fix_put.l0 k a1 (y116 ++ l0) (wrap64 (a2 - 1))) else (none))) else (none)) else (none)) = some r := h
  clear h
  obtain ⟨ji4, hji4⟩ : ∃ j_ : Int, (wrap64 ((l0.length : Int) + a2)) = j_ := ⟨_, rfl⟩
  replace H : (if 0 ≤ (ji4) then (if (ji4 : Int).toNat ≤ 281474976710656 then ((some ([] : List Int)).bind fun y116 => (if y116.length + l0.length < 140737488355328 then (fix_put.l0 k a1 (y116 ++ l0) (wrap64 (a2 - 1))) else (none))) else (none)) else (none)) = some r := by first | (rw [hji4] at H; exact H) | (simp only [hji4] at H ⊢; exact H)
  have hji4w : (IntKind.i64.wrap ((l0.length : Int) + a2)) = ji4 := (i64_w _).trans hji4
  by_cases c5 : 0 ≤ (ji4)
  rotate_left
  · rw [if_neg c5] at H
    exact absurd H (by simp)
  rw [if_pos c5] at H
  have c5b0 := eq_true c5
  have c5b1 := decide_eq_true c5
  clear c5
  by_cases c6 : (ji4 : Int).toNat ≤ 281474976710656
  rotate_left
  · rw [if_neg c6] at H
    exact absurd H (by simp)
  rw [if_pos c6] at H
  have c6b0 := eq_true c6
  have c6b1 := decide_eq_true c6
  clear c6
  obtain ⟨y116, hy116⟩ : ∃ y_ : List Int, y_ = ([]) := ⟨_, rfl⟩
  replace H : (if y116.length + l0.length < 140737488355328 then (fix_put.l0 k a1 (y116 ++ l0) (wrap64 (a2 - 1))) else (none)) = some r := by first | (rw [hy116]; with_reducible exact H) | (have H2_ := (Option.bind_some _ _).symm.trans H; rw [hy116]; with_reducible exact H2_) | (have H2_ := (Option.bind_some _ _).symm.trans H; with_reducible exact H2_) | with_reducible exact H | (rw [hy116]; exact H) | exact H
  have Ny116 := Aside0.mk hy116
  clear hy116
  by_cases c7 : y116.length + l0.length < 140737488355328
  rotate_left
  · rw [if_neg c7] at H
    exact absurd H (by simp)
  rw [if_pos c7] at H
  have LMc7 := Aside0.mk c7
  clear c7
  obtain ⟨y119, hy119⟩ : ∃ y_ : List Int, y_ = (y116 ++ l0) := ⟨_, rfl⟩
  replace H : (fix_put.l0 k a1 y119 (wrap64 (a2 - 1))) = some r := by first | (rw [hy119]; with_reducible exact H) | (have H2_ := (Option.bind_some _ _).symm.trans H; rw [hy119]; with_reducible exact H2_) | (have H2_ := (Option.bind_some _ _).symm.trans H; with_reducible exact H2_) | with_reducible exact H | (rw [hy119]; exact H) | exact H
  have Ny119 := Aside0.mk hy119
  clear hy119
  have H' := Aside0.mk H
  clear H
  go_enter Try.func47, Try.ntmps47
  go_wp2_with (first | ((with_reducible refine gate_dst (N := 13) rfl ?_); refine Hand.R_make0 (Kd.int .u8) _ 5 rfl (N := 13) rfl 30 _ _ rfl ji4 rfl rfl Try.underlying30 (.int .u8 0) 1 info5 (by omega) (ok := fun _ => True) trivial (of_decide_eq_true (by first | (with_reducible assumption) | assumption)) (Nat.le_trans (Nat.mul_le_mul_right _ (of_decide_eq_true (by first | (with_reducible assumption) | assumption) : ji4.toNat ≤ 281474976710656)) (by omega)) (Below.refl _ _) (Nat.le_refl _) ?_; intro v117 w8 ho9 hb hg_ hnew_; clear hg_ hnew_; (first | rw [← Ny116.out] at ho9 | (simp only [Int.reduceToNat] at ho9; rw [← Ny116.out] at ho9)); have n0_ := Aside0.mk (Kd.R_lower ho9 (below_size (by repeat (first | (with_reducible first | exact HB.out | apply below_alloc | apply pw_below_drewN | apply below_drew1) | exact HB.out)))); have n1_ := Aside0.mk (below_step (by repeat (first | (with_reducible first | exact HB.out | apply below_alloc | apply pw_below_drewN | apply below_drew1) | exact HB.out)) hb); clear HB; have HO118 := n0_; have HB := n1_; clear n0_ n1_; clear hb ho9) | ((with_reducible refine gate_builtin (b := .append) (xs := #[.tmp 13, .tmp 14]) rfl ?_); at_builtin; refine Kd.R_append_rows (Kd.int .u8) (w0 := w) w.heap.size rfl (.tmp 13) (.tmp 14) 30 5 (.int .u8 0) 1 rfl Try.underlying30 info5 rfl (by decide) (by omega) v117 y116 l0 _ _ _ (fun _ => True) (fun _ => False) rfl rfl ?aO ?aR (fun _ _ h => h) (fun _ h => h.elim) ?aF ?aB ?aS ?aL ?_; (case aR => repeat (first | exact (Kd.C_below HR0.out HB.out) | (with_reducible refine Kd.C_alloc ?_ _) | (with_reducible refine Kd.C_drewN ?_ _) | (with_reducible refine Kd.C_drew ?_))); (case aB => exact (by repeat (first | (with_reducible first | exact HB.out | apply below_alloc | apply pw_below_drewN | apply below_drew1) | exact HB.out))); (case aF => exact (fun _ _ => trivial)); (case aO => exact (by (with_reducible repeat (first | apply Kd.R_alloc | apply Kd.R_drewN | apply Kd.R_drew)); exact HO118.out)); (case aS => exact (below_size (by repeat (first | (with_reducible first | exact HB.out | apply below_alloc | apply pw_below_drewN | apply below_drew1) | exact HB.out)))); (case aL => have := LMc7.out; omega); intro v120 w10 ho hb hg hat; rw [← Ny119.out] at ho; have n0_ := Aside0.mk (hb); have n1_ := Aside0.mk (ho); clear HB; clear HO118; have HB := n0_; have HO121 := n1_; clear n0_ n1_; clear ho hb hg hat))
  go_loopg [7, 8] k (fun kq v7 v8 w' => ∃ (x7_1 : List Int) (x8_1 : Int), v8 = .int .i64 x8_1 ∧ Aside0 (fix_put.l0 kq a1 x7_1 x8_1 = some r) ∧ Aside0 (kq ≤ k) ∧ Aside0 (Kd.R (Kd.int .u8) 5 w' w.heap.size (fun _ => True) v7 x7_1) ∧ Aside0 (Below w.heap.size w w'))
  case atStart => exact ⟨(y119), (wrap64 (a2 - 1)), (by first | rfl | (simp; done) | (simp [*]; done)), H', ⟨Nat.le_refl _⟩, ⟨by (with_reducible repeat (first | apply Kd.R_alloc | apply Kd.R_drewN | apply Kd.R_drew)); exact HO121.out⟩, ⟨by repeat (first | (with_reducible first | exact HB.out | apply below_alloc | apply pw_below_drewN | apply below_drew1) | exact HB.out)⟩⟩
  case round =>
    clear H'
    try clear p2
    try clear c4
    try clear c5
    try clear c5b0
    try clear c5b1
    try clear c6
    try clear c6b0
    try clear c6b1
    try clear p6
    try clear c7
    obtain ⟨x7_1, x8_1, rfl, HA, HK1, HO_7, HB⟩ := hrel
    cases gk with
    | zero => exact absurd HA.out (by simp [fix_put.l0])
    | succ k1 =>
      have H := HA.out
      clear HA
      simp only [fix_put.l0] at H
      by_cases c11 : x8_1 ≥ 0
      rotate_left
      · rw [if_neg c11] at H
        have c11b0 : decide (0 ≤ x8_1) = false := decide_eq_false c11
        clear c11
        obtain rfl := Option.some.inj H
        go_wp2
        go_ret
        exact ⟨_, by first | rfl | (simp [errW_none, errW_some] <;> rfl) | (simp only [← hji4]; first | rfl | (simp [errW_none, errW_some] <;> rfl)) | (simp [*, errW_none, errW_some] <;> rfl), by (with_reducible repeat (first | apply Kd.R_alloc | apply Kd.R_drewN | apply Kd.R_drew)); exact HO_7.out, by repeat (first | (with_reducible first | exact HB.out | apply below_alloc | apply pw_below_drewN | apply below_drew1) | exact HB.out)⟩
      rw [if_pos c11] at H
      have c11b0 := decide_eq_true c11
      clear c11
      obtain ⟨ji12, hji12⟩ : ∃ j_ : Int, (wrap64 (8 * x8_1)) = j_ := ⟨_, rfl⟩
      replace H : (if 0 ≤ (ji12) then (if x7_1.length < 140737488355328 then (fix_put.l0 k1 a1 (x7_1 ++ [(shr .i64 a1 (ji12)) % 256]) (wrap64 (x8_1 - 1))) else (none)) else (none)) = some r := by first | (rw [hji12] at H; exact H) | (simp only [hji12] at H ⊢; exact H)
      have hji12w : (IntKind.i64.wrap (8 * x8_1)) = ji12 := (i64_w _).trans hji12
      by_cases c13 : 0 ≤ (ji12)
      rotate_left
      · rw [if_neg c13] at H
        exact absurd H (by simp)
      rw [if_pos c13] at H
      have c13b0 := eq_true c13
      have c13b1 := decide_eq_true c13
      clear c13
      obtain ⟨ji14, hji14⟩ : ∃ j_ : Int, (shr .i64 a1 (ji12)) = j_ := ⟨_, rfl⟩
      replace H : (if x7_1.length < 140737488355328 then (fix_put.l0 k1 a1 (x7_1 ++ [(ji14) % 256]) (wrap64 (x8_1 - 1))) else (none)) = some r := by first | (rw [hji14] at H; exact H) | (simp only [hji14] at H ⊢; exact H)
      have hji14_ : (a1 / 2 ^ min (ji12).toNat 64) = ji14 := hji14
      have hji14z : (ji12) ≤ 64 → (a1 / 2 ^ (ji12).toNat) = ji14 := shr_small hji14
      by_cases c15 : x7_1.length < 140737488355328
      rotate_left
      · rw [if_neg c15] at H
        exact absurd H (by simp)
      rw [if_pos c15] at H
      have LMc15 := Aside0.mk c15
      clear c15
      obtain ⟨y122, hy122⟩ : ∃ y_ : List Int, y_ = (x7_1 ++ [(ji14) % 256]) := ⟨_, rfl⟩
      replace H : (fix_put.l0 k1 a1 y122 (wrap64 (x8_1 - 1))) = some r := by first | (rw [hy122]; with_reducible exact H) | (have H2_ := (Option.bind_some _ _).symm.trans H; rw [hy122]; with_reducible exact H2_) | (have H2_ := (Option.bind_some _ _).symm.trans H; with_reducible exact H2_) | with_reducible exact H | (rw [hy122]; exact H) | exact H
      have Ny122 := Aside0.mk hy122
      clear hy122
      have H' := Aside0.mk H
      clear H
      go_wp2_with (first | ((with_reducible refine gate_builtin (b := .append) (xs := #[.tmp 22, .tmp 28]) rfl ?_); at_builtin; refine Kd.R_append (Kd.int .u8) (w0 := w) w.heap.size rfl (.tmp 22) (.tmp 28) 30 5 (.int .u8 0) 1 rfl Try.underlying30 info5 rfl (by decide) (by omega) u7 x7_1 ((ji14) % 256) [.int .u8 ((ji14) % 256)] (fun _ => True) (fun _ => False) rfl rfl ?aP (fun _ hk => hk.elim) ?aF ?aO ?aB ?aS ?aL ?_; (case aP => exact rfl); (case aB => exact (by repeat (first | (with_reducible first | exact HB.out | apply below_alloc | apply pw_below_drewN | apply below_drew1) | exact HB.out))); (case aF => exact (fun _ _ => trivial)); (case aO => exact (by (with_reducible repeat (first | apply Kd.R_alloc | apply Kd.R_drewN | apply Kd.R_drew)); exact HO_7.out)); (case aS => exact (below_size (by repeat (first | (with_reducible first | exact HB.out | apply below_alloc | apply pw_below_drewN | apply below_drew1) | exact HB.out)))); (case aL => have := LMc15.out; omega); intro v123 w16 ho hb hg hat; rw [← Ny122.out] at ho; have n0_ := Aside0.mk (hb); have n1_ := Aside0.mk (ho); clear HB; clear HO_7; have HB := n0_; have HO124 := n1_; clear n0_ n1_; clear ho hb hg hat))
      go_roundg k1
      case measure => have := HK1.out; omega
      case rel => exact ⟨(y122), (wrap64 (x8_1 - 1)), (by first | rfl | (simp; done) | (simp [*]; done)), H', ⟨by have := HK1.out; omega⟩, ⟨by (with_reducible repeat (first | apply Kd.R_alloc | apply Kd.R_drewN | apply Kd.R_drew)); exact HO124.out⟩, ⟨by repeat (first | (with_reducible first | exact HB.out | apply below_alloc | apply pw_below_drewN | apply below_drew1) | exact HB.out)⟩⟩
def fix_Put16.f (k : Nat) (l0 : List Int) (a1 : Int) : Option (List Int) := (fix_put.f k l0 a1 2).bind fun t125 => (some t125)
theorem fix_Put16.mono : ∀ a0 a1 k, LeO (fix_Put16.f k a0 a1) (fix_Put16.f (k + 1) a0 a1) := by
  intro a0 a1 k
  unfold fix_Put16.f
  repeat' first
      | (with_reducible exact fix_put.mono _ _ _ _)
      | (with_reducible exact LeO.refl _)
      | (with_reducible exact LeO.none _)
      | (with_reducible refine LeO.ite ?_ ?_)
      | (with_reducible refine LeO.bind ?_ (fun _ => ?_))
      | exact fix_put.mono _ _ _ _
      | exact LeO.none _
      | refine LeO.ite ?_ ?_
      | refine LeO.bind ?_ (fun _ => ?_)
set_option maxHeartbeats 8000000 in
set_option maxRecDepth 100000 in
theorem fix_Put16.calls (k : Nat) (A0 : Option Addr) (c0 : Nat) (l0 : List Int) (a1 : Int) (r : List Int) (w : World) (hr0 : Kd.C (Kd.int .u8) w A0 l0.length l0) (hc0 : l0.length ≤ c0) (h : fix_Put16.f k l0 a1 = some r) :
    Calls Try.prog 29 #[.slice A0 l0.length c0, .int .i64 a1] w fun e w' => ∃ v0_ : Value, e = .returned (v0_) ∧ Kd.R (Kd.int .u8) 5 w' w.heap.size (fun _ => True) v0_ r ∧ Below w.heap.size w w' := by
  have HR0 := Aside0.mk hr0
  have HC0 := Aside0.mk hc0
  clear hr0 hc0
  have HB := Aside0.mk (Below.refl w.heap.size w)
  have H : ((fix_put.f k l0 a1 2).bind fun t125 => (some t125)) = some r := h
  clear h
  replace H := Option.bind_eq_some_iff.mp H
  obtain ⟨t125, A30, H⟩ := H
  replace H : (some t125) = some r := H
  have A3 := Aside0.mk A30
  clear A30
  obtain rfl := Option.some.inj H
  go_enter Try.func29, Try.ntmps29
  go_wp2_with (first | ((with_reducible refine gate_callee (f := 47) rfl ?_); refine goesL_ (some 7) rfl rfl Try.func47 (by kernel_rfl) rfl #[.slice A0 l0.length c0, .int .i64 a1, .int .i64 2] rfl (by (try simp only [List.map_toArray, List.map_cons, List.map_nil]); first | done | rfl | (simp only [List.length_drop, List.length_take]; rfl)) ?_; (with_reducible refine (fix_put.calls k _ _ l0 a1 2 t125 _ ?side1 ?side2 A3.out).mono ?_); (case side1 => repeat (first | exact HR0.out | (with_reducible refine Kd.C_alloc ?_ _) | (with_reducible refine Kd.C_drewN ?_ _) | (with_reducible refine Kd.C_drew ?_))); (case side2 => exact HC0.out); rintro e w4 ⟨v126, rfl, ho0, hb⟩; refine ⟨_, rfl, ?_⟩; have n0_ := Aside0.mk (Kd.R_lower ho0 (below_size (by repeat (first | (with_reducible first | exact HB.out | apply below_alloc | apply pw_below_drewN | apply below_drew1) | exact HB.out)))); have n1_ := Aside0.mk (below_step (by repeat (first | (with_reducible first | exact HB.out | apply below_alloc | apply pw_below_drewN | apply below_drew1) | exact HB.out)) hb); clear HB; have HO127 := n0_; have HB := n1_; clear n0_ n1_; (try clear hb); (try clear hb2); (try clear hk); (try clear hi); (try clear ho0)))
  go_ret
  exact ⟨_, by first | rfl | (simp [errW_none, errW_some] <;> rfl) | (simp [*, errW_none, errW_some] <;> rfl), by (with_reducible repeat (first | apply Kd.R_alloc | apply Kd.R_drewN | apply Kd.R_drew)); exact HO127.out, by repeat (first | (with_reducible first | exact HB.out | apply below_alloc | apply pw_below_drewN | apply below_drew1) | exact HB.out)⟩
def fix_PutText.f (k : Nat) (l0 : List Int) (a1 : ByteArray) : Option (List Int) := if 0 ≤ (mn (a1.size : Int) 65535) then (if (mn (a1.size : Int) 65535) ≤ (a1.size : Int) then ((fix_Put16.f k l0 ((a1.extract 0 ((mn (a1.size : Int) 65535) : Int).toNat).size : Int)).bind fun t128 => (if t128.length + (a1.extract 0 ((mn (a1.size : Int) 65535) : Int).toNat).size < 140737488355328 then (some (t128 ++ bytesOf (a1.extract 0 ((mn (a1.size : Int) 65535) : Int).toNat))) else (none))) else (none)) else (none)
theorem fix_PutText.mono : ∀ a0 a1 k, LeO (fix_PutText.f k a0 a1) (fix_PutText.f (k + 1) a0 a1) := by
  intro a0 a1 k
  unfold fix_PutText.f
  repeat' first
      | (with_reducible exact fix_Put16.mono _ _ _)
      | (with_reducible exact LeO.refl _)
      | (with_reducible exact LeO.none _)
      | (with_reducible refine LeO.ite ?_ ?_)
      | (with_reducible refine LeO.bind ?_ (fun _ => ?_))
      | exact fix_Put16.mono _ _ _
      | exact LeO.none _
      | refine LeO.ite ?_ ?_
      | refine LeO.bind ?_ (fun _ => ?_)
set_option maxHeartbeats 8000000 in
set_option maxRecDepth 100000 in
theorem fix_PutText.calls (k : Nat) (A0 : Option Addr) (c0 : Nat) (l0 : List Int) (a1 : ByteArray) (r : List Int) (w : World) (hr0 : Kd.C (Kd.int .u8) w A0 l0.length l0) (hc0 : l0.length ≤ c0) (h : fix_PutText.f k l0 a1 = some r) :
    Calls Try.prog 30 #[.slice A0 l0.length c0, .string a1] w fun e w' => ∃ v0_ : Value, e = .returned (v0_) ∧ Kd.R (Kd.int .u8) 5 w' w.heap.size (fun _ => True) v0_ r ∧ Below w.heap.size w w' := by
  have HR0 := Aside0.mk hr0
  have HC0 := Aside0.mk hc0
  clear hr0 hc0
  have HB := Aside0.mk (Below.refl w.heap.size w)
  have H : (if 0 ≤ (mn (a1.size : Int) 65535) then (if (mn (a1.size : Int) 65535) ≤ (a1.size : Int) then ((fix_Put16.f k l0 ((a1.extract 0 ((mn (a1.size : Int) 65535) : Int).toNat).size : Int)).bind fun t128 => (if t128.length + (a1.extract 0 ((mn (a1.size : Int) 65535) : Int).toNat).size < 140737488355328 then (some (t128 ++ bytesOf (a1.extract 0 ((mn (a1.size : Int) 65535) : Int).toNat))) else (none))) else (none)) else (none)) = some r := h
  clear h
  obtain ⟨ji3, hji3⟩ : ∃ j_ : Int, (mn (a1.size : Int) 65535) = j_ := ⟨_, rfl⟩
  replace H : (if 0 ≤ (ji3) then (if (ji3) ≤ (a1.size : Int) then ((fix_Put16.f k l0 ((a1.extract 0 ((ji3) : Int).toNat).size : Int)).bind fun t128 => (if t128.length + (a1.extract 0 ((ji3) : Int).toNat).size < 140737488355328 then (some (t128 ++ bytesOf (a1.extract 0 ((ji3) : Int).toNat))) else (none))) else (none)) else (none)) = some r := by first | (rw [hji3] at H; exact H) | (simp only [hji3] at H ⊢; exact H)
  (try (have hji3h : ji3 ≤ 65535 := by (rw [← hji3]; unfold mn; (repeat' split) <;> omega)))
  (try (have hji3g : ji3 ≤ 64 := by omega))
  (try (have hji3l : 0 ≤ ji3 := by (rw [← hji3]; unfold mn; (repeat' split) <;> omega)))
  (try (have hji3m : 0 ≤ ji3 := by omega))
  have hji3_ : (if 65535 < (a1.size : Int) then 65535 else (a1.size : Int)) = ji3 := hji3
  have hji3n : (if 65535 < a1.size then 65535 else (a1.size : Int)) = ji3 := by rw [← hji3_]; by_cases h_ : 65535 < a1.size <;> simp [h_] <;> omega
  by_cases c4 : 0 ≤ (ji3)
  rotate_left
  · rw [if_neg c4] at H
    exact absurd H (by simp)
  rw [if_pos c4] at H
  have c4b0 := eq_true c4
  have c4b1 := decide_eq_true c4
  clear c4
  by_cases c5 : (ji3) ≤ (a1.size : Int)
  rotate_left
  · rw [if_neg c5] at H
    exact absurd H (by simp)
  rw [if_pos c5] at H
  have c5b0 := eq_true c5
  have c5b1 := decide_eq_true c5
  clear c5
  replace H := Option.bind_eq_some_iff.mp H
  obtain ⟨t128, A60, H⟩ := H
  replace H : (if t128.length + (a1.extract 0 ((ji3) : Int).toNat).size < 140737488355328 then (some (t128 ++ bytesOf (a1.extract 0 ((ji3) : Int).toNat))) else (none)) = some r := H
  have A6 := Aside0.mk A60
  clear A60
  by_cases c7 : t128.length + (a1.extract 0 ((ji3) : Int).toNat).size < 140737488355328
  rotate_left
  · rw [if_neg c7] at H
    exact absurd H (by simp)
  rw [if_pos c7] at H
  have LMc7 := Aside0.mk c7
  clear c7
  obtain ⟨y131, hy131⟩ : ∃ y_ : List Int, y_ = (t128 ++ bytesOf (a1.extract 0 ((ji3) : Int).toNat)) := ⟨_, rfl⟩
  replace H : (some y131) = some r := by first | (rw [hy131]; with_reducible exact H) | (have H2_ := (Option.bind_some _ _).symm.trans H; rw [hy131]; with_reducible exact H2_) | (have H2_ := (Option.bind_some _ _).symm.trans H; with_reducible exact H2_) | with_reducible exact H | (rw [hy131]; exact H) | exact H
  have Ny131 := Aside0.mk hy131
  clear hy131
  obtain rfl := Option.some.inj H
  go_enter Try.func30, Try.ntmps30
  go_wp2_with (first | ((with_reducible refine gate_callee (f := 29) rfl ?_); refine goesL_ (some 13) rfl rfl Try.func29 (by kernel_rfl) rfl #[.slice A0 l0.length c0, .int .i64 ((a1.extract 0 ((ji3) : Int).toNat).size : Int)] rfl (by (try simp only [List.map_toArray, List.map_cons, List.map_nil]); first | done | (simp only [ByteArray.size_extract, Nat.sub_zero]; rfl) | (rw [show ((a1.extract 0 ((ji3) : Int).toNat).size : Int) = max ji3 0 by (have h5_ : ji3 ≤ (a1.size : Int) := of_decide_eq_true (by assumption); rw [ByteArray.size_extract]; omega)]; rfl) | (simp only [hji3]; rfl) | rfl | (simp only [List.length_drop, List.length_take]; rfl)) ?_; (with_reducible refine (fix_Put16.calls k _ _ l0 ((a1.extract 0 ((ji3) : Int).toNat).size : Int) t128 _ ?side1 ?side2 A6.out).mono ?_); (case side1 => repeat (first | exact HR0.out | (with_reducible refine Kd.C_alloc ?_ _) | (with_reducible refine Kd.C_drewN ?_ _) | (with_reducible refine Kd.C_drew ?_))); (case side2 => exact HC0.out); rintro e w8 ⟨v129, rfl, ho0, hb⟩; refine ⟨_, rfl, ?_⟩; have n0_ := Aside0.mk (Kd.R_lower ho0 (below_size (by repeat (first | (with_reducible first | exact HB.out | apply below_alloc | apply pw_below_drewN | apply below_drew1) | exact HB.out)))); have n1_ := Aside0.mk (below_step (by repeat (first | (with_reducible first | exact HB.out | apply below_alloc | apply pw_below_drewN | apply below_drew1) | exact HB.out)) hb); clear HB; have HO130 := n0_; have HB := n1_; clear n0_ n1_; (try clear hb); (try clear hb2); (try clear hk); (try clear hi); (try clear ho0)) | (at_builtin; refine print_append_str (w0 := w) w.heap.size rfl (.tmp 13) _ 30 9 5 rfl Try.underlying30 Try.underlying9 info5 v129 t128 (a1.extract 0 ((ji3) : Int).toNat) rfl rfl ?aO ?aB ?aS ?aL ?_; (case aB => exact (by repeat (first | (with_reducible first | exact HB.out | apply below_alloc | apply pw_below_drewN | apply below_drew1) | exact HB.out))); (case aO => exact (Kd.own_of_R (by (with_reducible repeat (first | apply Kd.R_alloc | apply Kd.R_drewN | apply Kd.R_drew)); exact HO130.out))); (case aS => exact (below_size (by repeat (first | (with_reducible first | exact HB.out | apply below_alloc | apply pw_below_drewN | apply below_drew1) | exact HB.out)))); (case aL => have := LMc7.out; omega); intro v132 w9 ho0 hb hg; have ho := Kd.R_of_own (h1 := fun _ => rfl) (ok := fun _ => True) ho0 (fun _ _ => trivial); clear ho0; have hat := True.intro; rw [← Ny131.out] at ho; change Kd.R (Kd.int .u8) 5 w9 w.heap.size (fun _ => True) v132 y131 at ho; have n0_ := Aside0.mk (hb); have n1_ := Aside0.mk (ho); clear HB; clear HO130; have HB := n0_; have HO133 := n1_; clear n0_ n1_; clear ho hb hg hat))
  go_ret
  exact ⟨_, by first | rfl | (simp [errW_none, errW_some] <;> rfl) | (simp only [← hji3]; first | rfl | (simp [errW_none, errW_some] <;> rfl)) | (simp [*, errW_none, errW_some] <;> rfl), by (with_reducible repeat (first | apply Kd.R_alloc | apply Kd.R_drewN | apply Kd.R_drew)); exact HO133.out, by repeat (first | (with_reducible first | exact HB.out | apply below_alloc | apply pw_below_drewN | apply below_drew1) | exact HB.out)⟩
end Go.Proofs.Ytgbcfkcnoncgdaa.Sp
