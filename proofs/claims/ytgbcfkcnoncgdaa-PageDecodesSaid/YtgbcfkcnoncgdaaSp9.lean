import Derived.Test.YtgbcfkcnoncgdaaSp0
import Derived.Test.YtgbcfkcnoncgdaaSp8
namespace Go.Proofs.Ytgbcfkcnoncgdaa.Sp
open Go.Proofs.Ytgbcfkcnoncgdaa.Hand
open Go.RowKit Go.Proofs.YtgbcfkcnoncgdaaW.PrintWords Go.Proofs.YtgbcfkcnoncgdaaW.PrintLast Go.Proofs.YtgbcfkcnoncgdaaW.PrintMore
attribute [local go_sem] max2_int min2_int max_two min_two max_three min_three max_four min_four
set_option linter.unusedVariables false
set_option linter.unusedSimpArgs false
mutual
def sapwoodref04_cells.l0 : Nat → List (S64) → Int → Int → Option (Bool)
  | 0, _, _, _ => none
  | k + 1, x0, x11, x12 => if x12 < x11 then (if 0 ≤ x12 then (if x12 < (x0.length : Int) then ((sapwoodref03_Key.f ((rd_T64 x0 x12).f0)).bind fun t245 => (if t245 = 0 then (if x12 > 0 then (if 0 ≤ (wrap64 (x12 - 1)) then (if (wrap64 (x12 - 1)) < (x0.length : Int) then (sapwoodref04_cells.j1 k x0 x11 x12 (!(Op.bytesLess (((rd_T64 x0 (wrap64 (x12 - 1))).f0).toList) (((rd_T64 x0 x12).f0).toList))) ((rd_T64 x0 x12).f0) ((rd_T64 x0 x12).f1) ((rd_T64 x0 x12).f2) ((rd_T64 x0 x12).f3)) else (none)) else (none)) else (sapwoodref04_cells.j1 k x0 x11 x12 false ((rd_T64 x0 x12).f0) ((rd_T64 x0 x12).f1) ((rd_T64 x0 x12).f2) ((rd_T64 x0 x12).f3))) else (sapwoodref04_cells.j1 k x0 x11 x12 true ((rd_T64 x0 x12).f0) ((rd_T64 x0 x12).f1) ((rd_T64 x0 x12).f2) ((rd_T64 x0 x12).f3)))) else (none)) else (none)) else (some true)
def sapwoodref04_cells.j1 : Nat → List (S64) → Int → Int → Bool → ByteArray → ByteArray → Int → Int → Option (Bool)
  | 0, _, _, _, _, _, _, _, _ => none
  | k + 1, x0, x11, x12, x37, x245000, x245001, x245002, x245003 => if x37 = true then (some false) else (if (x245001.size : Int) ≤ 24 then (if x245002 = 0 then (if x245001.toList = ([] : List UInt8) then (if x245002 ≥ 25 then (if x245002 ≤ 400 then ((sapwoodref04_Number.f x245003).bind fun t247 => (if x245003 = 0 then (sapwoodref04_cells.l0 k x0 x11 (wrap64 (x12 + 1))) else (if t247 = true then (sapwoodref04_cells.l0 k x0 x11 (wrap64 (x12 + 1))) else (some false)))) else (if x245003 = 0 then (sapwoodref04_cells.l0 k x0 x11 (wrap64 (x12 + 1))) else (some false))) else (if x245003 = 0 then (sapwoodref04_cells.l0 k x0 x11 (wrap64 (x12 + 1))) else (some false))) else (if x245003 = 0 then (sapwoodref04_cells.l0 k x0 x11 (wrap64 (x12 + 1))) else (some false))) else (if x245001.toList = ([] : List UInt8) then (if x245002 ≥ 25 then (if x245002 ≤ 400 then ((sapwoodref04_Number.f x245003).bind fun t248 => (if t248 = true then (sapwoodref04_cells.l0 k x0 x11 (wrap64 (x12 + 1))) else (some false))) else (some false)) else (some false)) else (some false))) else (if x245001.toList = ([] : List UInt8) then (if x245002 ≥ 25 then (if x245002 ≤ 400 then ((sapwoodref04_Number.f x245003).bind fun t249 => (if t249 = true then (sapwoodref04_cells.l0 k x0 x11 (wrap64 (x12 + 1))) else (some false))) else (some false)) else (some false)) else (some false)))
end
def sapwoodref04_cells.f (k : Nat) (l0 : List (S64)) : Option (Bool) := if (l0.length : Int) > 4 then (some false) else (sapwoodref04_cells.l0 k l0 (l0.length : Int) 0)
set_option maxHeartbeats 8000000 in
set_option maxRecDepth 100000 in
theorem sapwoodref04_cells.calls (k : Nat) (A0 : Option Addr) (c0 : Nat) (l0 : List (S64)) (r : Bool) (w : World) (hr0 : Kd.C k64 w A0 l0.length l0) (hc0 : l0.length ≤ c0) (h : sapwoodref04_cells.f k l0 = some r) :
    Calls Try.prog 36 #[.slice A0 l0.length c0] w fun e w' => e = .returned (.bool r) ∧ Below w.heap.size w w' := by
  have hu64 := Try.underlying64
  have HR0 := Aside0.mk hr0
  have HC0 := Aside0.mk hc0
  clear hr0 hc0
  have HB := Aside0.mk (Below.refl w.heap.size w)
  have H : (if (l0.length : Int) > 4 then (some false) else (sapwoodref04_cells.l0 k l0 (l0.length : Int) 0)) = some r := h
  clear h
  by_cases c2 : (l0.length : Int) > 4
  · rw [if_pos c2] at H
    have c2b0 := decide_eq_true c2
    have c2b1 : decide (4 < l0.length) = true := decide_eq_true (by omega)
    clear c2
    obtain rfl := Option.some.inj H
    go_enter Try.func36, Try.ntmps36
    go_wp2
    repeat (go_quiet (fail); try go_wp2)
    go_ret
    exact ⟨by first | rfl | (simp [errW_none, errW_some] <;> rfl) | (simp [*, errW_none, errW_some] <;> rfl), by repeat (first | (with_reducible first | exact HB.out | apply below_alloc | apply pw_below_drewN | apply below_drew1) | exact HB.out)⟩
  rw [if_neg c2] at H
  have c2b0 : decide (4 < (l0.length : Int)) = false := decide_eq_false c2
  have c2b1 : decide (4 < l0.length) = false := decide_eq_false (by omega)
  clear c2
  have H' := Aside0.mk H
  clear H
  go_enter Try.func36, Try.ntmps36
  go_wp2
  repeat (go_quiet (fail); try go_wp2)
  go_loopg [12] k (fun kq v12 w' => ∃ (x12_1 : Int), v12 = .int .i64 x12_1 ∧ Aside0 (sapwoodref04_cells.l0 kq l0 (l0.length : Int) x12_1 = some r) ∧ Aside0 (kq ≤ k) ∧ Aside0 (Below w.heap.size w w'))
  case atStart => exact ⟨(0), (by first | rfl | (simp; done) | (simp [*]; done)), H', ⟨Nat.le_refl _⟩, ⟨by repeat (first | (with_reducible first | exact HB.out | apply below_alloc | apply pw_below_drewN | apply below_drew1) | exact HB.out)⟩⟩
  case round =>
    clear H'
    try clear c2
    try clear c2b0
    try clear c2b1
    try clear p2
    obtain ⟨x12_1, rfl, HA, HK1, HB⟩ := hrel
    cases gk with
    | zero => exact absurd HA.out (by simp [sapwoodref04_cells.l0])
    | succ k1 =>
      have H := HA.out
      clear HA
      simp only [sapwoodref04_cells.l0] at H
      by_cases c3 : x12_1 < (l0.length : Int)
      rotate_left
      · rw [if_neg c3] at H
        have c3b0 : decide (x12_1 < (l0.length : Int)) = false := decide_eq_false c3
        clear c3
        obtain rfl := Option.some.inj H
        go_wp2
        repeat (go_quiet (fail); try go_wp2)
        go_ret
        exact ⟨by first | rfl | (simp [errW_none, errW_some] <;> rfl) | (simp [*, errW_none, errW_some] <;> rfl), by repeat (first | (with_reducible first | exact HB.out | apply below_alloc | apply pw_below_drewN | apply below_drew1) | exact HB.out)⟩
      rw [if_pos c3] at H
      have c3b0 := decide_eq_true c3
      clear c3
      by_cases c4 : 0 ≤ x12_1
      rotate_left
      · rw [if_neg c4] at H
        exact absurd H (by simp)
      rw [if_pos c4] at H
      have c4b0 := decide_eq_true c4
      clear c4
      by_cases c5 : x12_1 < (l0.length : Int)
      rotate_left
      · rw [if_neg c5] at H
        exact absurd H (by simp)
      rw [if_pos c5] at H
      have c5b0 := decide_eq_true c5
      clear c5
      have HC6 := Aside0.mk H
      clear H
      have p243 : 0 ≤ (x12_1 : Int) := of_decide_eq_true (by first | (with_reducible assumption) | assumption)
      have q243 : x12_1 < (l0.length : Int) := of_decide_eq_true (by first | (with_reducible assumption) | assumption)
      obtain ⟨ad243, e243, hx243_0, hx243_1, hx243_2, hx243_3⟩ := at_T64 HR0.out x12_1 p243 q243
      cases e243
      replace hx243_0 := (HB.out.cell (World.block_lt_of_cell? w _ hx243_0)).trans hx243_0
      replace hx243_1 := (HB.out.cell (World.block_lt_of_cell? w _ hx243_1)).trans hx243_1
      replace hx243_2 := (HB.out.cell (World.block_lt_of_cell? w _ hx243_2)).trans hx243_2
      replace hx243_3 := (HB.out.cell (World.block_lt_of_cell? w _ hx243_3)).trans hx243_3
      replace p243 := eq_true p243
      replace q243 := eq_true q243
      go_upto_region 7 with (first | ((with_reducible refine gate_dst (N := 4) rfl ?_); refine box_event ?hg (N := 4) ?hd (cs := #[.string (⟨#[]⟩ : ByteArray), .string (⟨#[]⟩ : ByteArray), .int .i64 0, .int .i64 0]) (t := 64) ?hr ?_; (case hd => rfl); (case hg => rfl); (case hr => first | (go_simp; done) | (go_simp; rfl)); intro gb244 hg w7 hbox hb; have n0_ := Aside0.mk (below_step (by repeat (first | (with_reducible first | exact HB.out | apply below_alloc | apply pw_below_drewN | apply below_drew1) | exact HB.out)) hb); have n1_ := Aside0.mk (hbox); have n2_ := Aside0.mk ((by rw [hg]; exact (below_size (by repeat (first | (with_reducible first | exact HB.out | apply below_alloc | apply pw_below_drewN | apply below_drew1) | exact HB.out))) : w.heap.size ≤ gb244)); have n3_ := n2_; clear HB; have HB := n0_; have BK244 := n1_; have GW244 := n2_; have GE244 := n3_; clear n0_ n1_ n2_ n3_; clear hb hbox hg; have hcz8_0 : w7.cell? ⟨gb244, 0, none⟩ = some (.string (⟨#[]⟩ : ByteArray)) := (blk_cell BK244.out 0).trans rfl; have hcz8_1 : w7.cell? ⟨gb244, 1, none⟩ = some (.string (⟨#[]⟩ : ByteArray)) := (blk_cell BK244.out 1).trans rfl; have hcz8_2 : w7.cell? ⟨gb244, 2, none⟩ = some (.int .i64 0) := (blk_cell BK244.out 2).trans rfl; have hcz8_3 : w7.cell? ⟨gb244, 3, none⟩ = some (.int .i64 0) := (blk_cell BK244.out 3).trans rfl; have hfz8_0 := blk_frozen BK244.out 0; have hfz8_1 := blk_frozen BK244.out 1; have hfz8_2 := blk_frozen BK244.out 2; have hfz8_3 := blk_frozen BK244.out 3))
      repeat (go_quiet (first | ((with_reducible refine gate_dst (N := 4) rfl ?_); refine box_event ?hg (N := 4) ?hd (cs := #[.string (⟨#[]⟩ : ByteArray), .string (⟨#[]⟩ : ByteArray), .int .i64 0, .int .i64 0]) (t := 64) ?hr ?_; (case hd => rfl); (case hg => rfl); (case hr => first | (go_simp; done) | (go_simp; rfl)); intro gb244 hg w7 hbox hb; have n0_ := Aside0.mk (below_step (by repeat (first | (with_reducible first | exact HB.out | apply below_alloc | apply pw_below_drewN | apply below_drew1) | exact HB.out)) hb); have n1_ := Aside0.mk (hbox); have n2_ := Aside0.mk ((by rw [hg]; exact (below_size (by repeat (first | (with_reducible first | exact HB.out | apply below_alloc | apply pw_below_drewN | apply below_drew1) | exact HB.out))) : w.heap.size ≤ gb244)); have n3_ := n2_; clear HB; have HB := n0_; have BK244 := n1_; have GW244 := n2_; have GE244 := n3_; clear n0_ n1_ n2_ n3_; clear hb hbox hg; have hcz8_0 : w7.cell? ⟨gb244, 0, none⟩ = some (.string (⟨#[]⟩ : ByteArray)) := (blk_cell BK244.out 0).trans rfl; have hcz8_1 : w7.cell? ⟨gb244, 1, none⟩ = some (.string (⟨#[]⟩ : ByteArray)) := (blk_cell BK244.out 1).trans rfl; have hcz8_2 : w7.cell? ⟨gb244, 2, none⟩ = some (.int .i64 0) := (blk_cell BK244.out 2).trans rfl; have hcz8_3 : w7.cell? ⟨gb244, 3, none⟩ = some (.int .i64 0) := (blk_cell BK244.out 3).trans rfl; have hfz8_0 := blk_frozen BK244.out 0; have hfz8_1 := blk_frozen BK244.out 1; have hfz8_2 := blk_frozen BK244.out 2; have hfz8_3 := blk_frozen BK244.out 3)); go_upto_region 7 with (first | ((with_reducible refine gate_dst (N := 4) rfl ?_); refine box_event ?hg (N := 4) ?hd (cs := #[.string (⟨#[]⟩ : ByteArray), .string (⟨#[]⟩ : ByteArray), .int .i64 0, .int .i64 0]) (t := 64) ?hr ?_; (case hd => rfl); (case hg => rfl); (case hr => first | (go_simp; done) | (go_simp; rfl)); intro gb244 hg w7 hbox hb; have n0_ := Aside0.mk (below_step (by repeat (first | (with_reducible first | exact HB.out | apply below_alloc | apply pw_below_drewN | apply below_drew1) | exact HB.out)) hb); have n1_ := Aside0.mk (hbox); have n2_ := Aside0.mk ((by rw [hg]; exact (below_size (by repeat (first | (with_reducible first | exact HB.out | apply below_alloc | apply pw_below_drewN | apply below_drew1) | exact HB.out))) : w.heap.size ≤ gb244)); have n3_ := n2_; clear HB; have HB := n0_; have BK244 := n1_; have GW244 := n2_; have GE244 := n3_; clear n0_ n1_ n2_ n3_; clear hb hbox hg; have hcz8_0 : w7.cell? ⟨gb244, 0, none⟩ = some (.string (⟨#[]⟩ : ByteArray)) := (blk_cell BK244.out 0).trans rfl; have hcz8_1 : w7.cell? ⟨gb244, 1, none⟩ = some (.string (⟨#[]⟩ : ByteArray)) := (blk_cell BK244.out 1).trans rfl; have hcz8_2 : w7.cell? ⟨gb244, 2, none⟩ = some (.int .i64 0) := (blk_cell BK244.out 2).trans rfl; have hcz8_3 : w7.cell? ⟨gb244, 3, none⟩ = some (.int .i64 0) := (blk_cell BK244.out 3).trans rfl; have hfz8_0 := blk_frozen BK244.out 0; have hfz8_1 := blk_frozen BK244.out 1; have hfz8_2 := blk_frozen BK244.out 2; have hfz8_3 := blk_frozen BK244.out 3)))
      (try simp only [Act.put, List.setIfInBounds_toArray, List.set_cons_zero, List.set_cons_succ])
      go_cut [37] (fun v37 wc => ∃ (kq : Nat) (x37_5 : Bool), v37 = .bool x37_5 ∧ Aside0 (sapwoodref04_cells.j1 kq l0 (l0.length : Int) x12_1 x37_5 ((rd_T64 l0 x12_1).f0) ((rd_T64 l0 x12_1).f1) ((rd_T64 l0 x12_1).f2) ((rd_T64 l0 x12_1).f3) = some r) ∧ Aside0 (kq ≤ k1) ∧ Aside0 (wc.heap[gb244]? = some (.cells #[.string ((rd_T64 l0 x12_1).f0), .string ((rd_T64 l0 x12_1).f1), .int .i64 ((rd_T64 l0 x12_1).f2), .int .i64 ((rd_T64 l0 x12_1).f3)] 64 (0, 0))) ∧ Aside0 (Below w.heap.size w wc))
      case first =>
        have H := HC6.out
        clear HC6
        replace H := Option.bind_eq_some_iff.mp H
        obtain ⟨t245, A90, H⟩ := H
        replace H : (if t245 = 0 then (if x12_1 > 0 then (if 0 ≤ (wrap64 (x12_1 - 1)) then (if (wrap64 (x12_1 - 1)) < (l0.length : Int) then (sapwoodref04_cells.j1 k1 l0 (l0.length : Int) x12_1 (!(Op.bytesLess (((rd_T64 l0 (wrap64 (x12_1 - 1))).f0).toList) (((rd_T64 l0 x12_1).f0).toList))) ((rd_T64 l0 x12_1).f0) ((rd_T64 l0 x12_1).f1) ((rd_T64 l0 x12_1).f2) ((rd_T64 l0 x12_1).f3)) else (none)) else (none)) else (sapwoodref04_cells.j1 k1 l0 (l0.length : Int) x12_1 false ((rd_T64 l0 x12_1).f0) ((rd_T64 l0 x12_1).f1) ((rd_T64 l0 x12_1).f2) ((rd_T64 l0 x12_1).f3))) else (sapwoodref04_cells.j1 k1 l0 (l0.length : Int) x12_1 true ((rd_T64 l0 x12_1).f0) ((rd_T64 l0 x12_1).f1) ((rd_T64 l0 x12_1).f2) ((rd_T64 l0 x12_1).f3))) = some r := H
        have A9 := Aside0.mk A90
        clear A90
        by_cases c10 : t245 = 0
        rotate_left
        · rw [if_neg c10] at H
          have c10b0 : (t245 == 0) = false := beq_eq_false_iff_ne.mpr c10
          have c10b1 : (t245 != 0) = true := bne_iff_ne.mpr c10
          (first | rw [c10b0] | (simp only [i64_w, i32_w]; rw [c10b0]) | skip)
          have H' := Aside0.mk H
          clear H
          have hcz17_0 : w7.cell? ⟨gb244, 0, none⟩ = some (.string (⟨#[]⟩ : ByteArray)) := (blk_cell BK244.out 0).trans rfl
          have hcz17_1 : w7.cell? ⟨gb244, 1, none⟩ = some (.string (⟨#[]⟩ : ByteArray)) := (blk_cell BK244.out 1).trans rfl
          have hcz17_2 : w7.cell? ⟨gb244, 2, none⟩ = some (.int .i64 0) := (blk_cell BK244.out 2).trans rfl
          have hcz17_3 : w7.cell? ⟨gb244, 3, none⟩ = some (.int .i64 0) := (blk_cell BK244.out 3).trans rfl
          have hfz17_0 := blk_frozen BK244.out 0
          have hfz17_1 := blk_frozen BK244.out 1
          have hfz17_2 := blk_frozen BK244.out 2
          have hfz17_3 := blk_frozen BK244.out 3
          go_wp2_with (first | (go_at_call 54; (with_reducible refine (sapwoodref03_Key.calls ((rd_T64 l0 x12_1).f0) t245 _ A9.out).mono ?_); rintro e w' ⟨rfl, ⟨nd, rfl⟩⟩; (try first | exact ⟨rfl, _, World.drewN_drewN _ _ _⟩ | exact ⟨rfl, _, Eq.trans (World.drewN_drewN _ _ _) (congrArg (World.drewN _) (Nat.add_assoc _ _ _))⟩)))
          repeat (go_quiet (first | (go_at_call 54; (with_reducible refine (sapwoodref03_Key.calls ((rd_T64 l0 x12_1).f0) t245 _ A9.out).mono ?_); rintro e w' ⟨rfl, ⟨nd, rfl⟩⟩; (try first | exact ⟨rfl, _, World.drewN_drewN _ _ _⟩ | exact ⟨rfl, _, Eq.trans (World.drewN_drewN _ _ _) (congrArg (World.drewN _) (Nat.add_assoc _ _ _))⟩))); try go_wp2_with (first | (go_at_call 54; (with_reducible refine (sapwoodref03_Key.calls ((rd_T64 l0 x12_1).f0) t245 _ A9.out).mono ?_); rintro e w' ⟨rfl, ⟨nd, rfl⟩⟩; (try first | exact ⟨rfl, _, World.drewN_drewN _ _ _⟩ | exact ⟨rfl, _, Eq.trans (World.drewN_drewN _ _ _) (congrArg (World.drewN _) (Nat.add_assoc _ _ _))⟩))))
          go_meet
          case rel => exact ⟨_, (true), (by first | rfl | (simp; done) | (simp [*]; done)), H', ⟨by have := HK1.out; first | omega | exact Nat.le_refl _⟩, ⟨by (with_reducible repeat (first | refine blk_drewN ?_ _ | refine blk_drew ?_ | refine blk_alloc ?_ _)); refine blk_put (cs := #[.string ((rd_T64 l0 x12_1).f0), .string ((rd_T64 l0 x12_1).f1), .int .i64 ((rd_T64 l0 x12_1).f2), .int .i64 0]) ?_ 3 _ rfl; (with_reducible repeat (first | refine blk_drewN ?_ _ | refine blk_drew ?_ | refine blk_alloc ?_ _)); refine blk_put (cs := #[.string ((rd_T64 l0 x12_1).f0), .string ((rd_T64 l0 x12_1).f1), .int .i64 0, .int .i64 0]) ?_ 2 _ rfl; (with_reducible repeat (first | refine blk_drewN ?_ _ | refine blk_drew ?_ | refine blk_alloc ?_ _)); refine blk_put (cs := #[.string ((rd_T64 l0 x12_1).f0), .string (⟨#[]⟩ : ByteArray), .int .i64 0, .int .i64 0]) ?_ 1 _ rfl; (with_reducible repeat (first | refine blk_drewN ?_ _ | refine blk_drew ?_ | refine blk_alloc ?_ _)); refine blk_put (cs := #[.string (⟨#[]⟩ : ByteArray), .string (⟨#[]⟩ : ByteArray), .int .i64 0, .int .i64 0]) ?_ 0 _ rfl; (with_reducible repeat (first | refine blk_drewN ?_ _ | refine blk_drew ?_ | refine blk_alloc ?_ _)); exact BK244.out⟩, ⟨by repeat (first | (with_reducible first | exact HB.out | apply below_alloc | apply pw_below_drewN | apply below_drew1 | refine below_set ?_ GE244.out) | exact HB.out)⟩⟩
        rw [if_pos c10] at H
        have c10b0 : (t245 == 0) = true := beq_iff_eq.mpr c10
        have c10b1 : (t245 != 0) = false := bne_eq_false_iff_eq.mpr c10
        clear c10
        (first | rw [c10b0] | (simp only [i64_w, i32_w]; rw [c10b0]) | skip)
        by_cases c11 : x12_1 > 0
        rotate_left
        · rw [if_neg c11] at H
          have c11b0 : decide (0 < x12_1) = false := decide_eq_false c11
          clear c11
          have H' := Aside0.mk H
          clear H
          have hcz16_0 : w7.cell? ⟨gb244, 0, none⟩ = some (.string (⟨#[]⟩ : ByteArray)) := (blk_cell BK244.out 0).trans rfl
          have hcz16_1 : w7.cell? ⟨gb244, 1, none⟩ = some (.string (⟨#[]⟩ : ByteArray)) := (blk_cell BK244.out 1).trans rfl
          have hcz16_2 : w7.cell? ⟨gb244, 2, none⟩ = some (.int .i64 0) := (blk_cell BK244.out 2).trans rfl
          have hcz16_3 : w7.cell? ⟨gb244, 3, none⟩ = some (.int .i64 0) := (blk_cell BK244.out 3).trans rfl
          have hfz16_0 := blk_frozen BK244.out 0
          have hfz16_1 := blk_frozen BK244.out 1
          have hfz16_2 := blk_frozen BK244.out 2
          have hfz16_3 := blk_frozen BK244.out 3
          go_wp2_with (first | (go_at_call 54; (with_reducible refine (sapwoodref03_Key.calls ((rd_T64 l0 x12_1).f0) t245 _ A9.out).mono ?_); rintro e w' ⟨rfl, ⟨nd, rfl⟩⟩; (try first | exact ⟨rfl, _, World.drewN_drewN _ _ _⟩ | exact ⟨rfl, _, Eq.trans (World.drewN_drewN _ _ _) (congrArg (World.drewN _) (Nat.add_assoc _ _ _))⟩)))
          repeat (go_quiet (first | (go_at_call 54; (with_reducible refine (sapwoodref03_Key.calls ((rd_T64 l0 x12_1).f0) t245 _ A9.out).mono ?_); rintro e w' ⟨rfl, ⟨nd, rfl⟩⟩; (try first | exact ⟨rfl, _, World.drewN_drewN _ _ _⟩ | exact ⟨rfl, _, Eq.trans (World.drewN_drewN _ _ _) (congrArg (World.drewN _) (Nat.add_assoc _ _ _))⟩))); try go_wp2_with (first | (go_at_call 54; (with_reducible refine (sapwoodref03_Key.calls ((rd_T64 l0 x12_1).f0) t245 _ A9.out).mono ?_); rintro e w' ⟨rfl, ⟨nd, rfl⟩⟩; (try first | exact ⟨rfl, _, World.drewN_drewN _ _ _⟩ | exact ⟨rfl, _, Eq.trans (World.drewN_drewN _ _ _) (congrArg (World.drewN _) (Nat.add_assoc _ _ _))⟩))))
          go_meet
          case rel => exact ⟨_, (false), (by first | rfl | (simp; done) | (simp [*]; done)), H', ⟨by have := HK1.out; first | omega | exact Nat.le_refl _⟩, ⟨by (with_reducible repeat (first | refine blk_drewN ?_ _ | refine blk_drew ?_ | refine blk_alloc ?_ _)); refine blk_put (cs := #[.string ((rd_T64 l0 x12_1).f0), .string ((rd_T64 l0 x12_1).f1), .int .i64 ((rd_T64 l0 x12_1).f2), .int .i64 0]) ?_ 3 _ rfl; (with_reducible repeat (first | refine blk_drewN ?_ _ | refine blk_drew ?_ | refine blk_alloc ?_ _)); refine blk_put (cs := #[.string ((rd_T64 l0 x12_1).f0), .string ((rd_T64 l0 x12_1).f1), .int .i64 0, .int .i64 0]) ?_ 2 _ rfl; (with_reducible repeat (first | refine blk_drewN ?_ _ | refine blk_drew ?_ | refine blk_alloc ?_ _)); refine blk_put (cs := #[.string ((rd_T64 l0 x12_1).f0), .string (⟨#[]⟩ : ByteArray), .int .i64 0, .int .i64 0]) ?_ 1 _ rfl; (with_reducible repeat (first | refine blk_drewN ?_ _ | refine blk_drew ?_ | refine blk_alloc ?_ _)); refine blk_put (cs := #[.string (⟨#[]⟩ : ByteArray), .string (⟨#[]⟩ : ByteArray), .int .i64 0, .int .i64 0]) ?_ 0 _ rfl; (with_reducible repeat (first | refine blk_drewN ?_ _ | refine blk_drew ?_ | refine blk_alloc ?_ _)); exact BK244.out⟩, ⟨by repeat (first | (with_reducible first | exact HB.out | apply below_alloc | apply pw_below_drewN | apply below_drew1 | refine below_set ?_ GE244.out) | exact HB.out)⟩⟩
        rw [if_pos c11] at H
        have c11b0 := decide_eq_true c11
        clear c11
        obtain ⟨ji12, hji12⟩ : ∃ j_ : Int, (wrap64 (x12_1 - 1)) = j_ := ⟨_, rfl⟩
        replace H : (if 0 ≤ (ji12) then (if (ji12) < (l0.length : Int) then (sapwoodref04_cells.j1 k1 l0 (l0.length : Int) x12_1 (!(Op.bytesLess (((rd_T64 l0 (ji12)).f0).toList) (((rd_T64 l0 x12_1).f0).toList))) ((rd_T64 l0 x12_1).f0) ((rd_T64 l0 x12_1).f1) ((rd_T64 l0 x12_1).f2) ((rd_T64 l0 x12_1).f3)) else (none)) else (none)) = some r := by first | (rw [hji12] at H; exact H) | (simp only [hji12] at H ⊢; exact H)
        (try rw [hji12] at A9)
        have hji12w : (IntKind.i64.wrap (x12_1 - 1)) = ji12 := (i64_w _).trans hji12
        by_cases c13 : 0 ≤ (ji12)
        rotate_left
        · rw [if_neg c13] at H
          exact absurd H (by simp)
        rw [if_pos c13] at H
        have c13b0 := decide_eq_true c13
        clear c13
        by_cases c14 : (ji12) < (l0.length : Int)
        rotate_left
        · rw [if_neg c14] at H
          exact absurd H (by simp)
        rw [if_pos c14] at H
        have c14b0 := decide_eq_true c14
        clear c14
        have H' := Aside0.mk H
        clear H
        have hcz15_0 : w7.cell? ⟨gb244, 0, none⟩ = some (.string (⟨#[]⟩ : ByteArray)) := (blk_cell BK244.out 0).trans rfl
        have hcz15_1 : w7.cell? ⟨gb244, 1, none⟩ = some (.string (⟨#[]⟩ : ByteArray)) := (blk_cell BK244.out 1).trans rfl
        have hcz15_2 : w7.cell? ⟨gb244, 2, none⟩ = some (.int .i64 0) := (blk_cell BK244.out 2).trans rfl
        have hcz15_3 : w7.cell? ⟨gb244, 3, none⟩ = some (.int .i64 0) := (blk_cell BK244.out 3).trans rfl
        have hfz15_0 := blk_frozen BK244.out 0
        have hfz15_1 := blk_frozen BK244.out 1
        have hfz15_2 := blk_frozen BK244.out 2
        have hfz15_3 := blk_frozen BK244.out 3
        go_wp2_with (first | (go_at_call 54; (with_reducible refine (sapwoodref03_Key.calls ((rd_T64 l0 x12_1).f0) t245 _ A9.out).mono ?_); rintro e w' ⟨rfl, ⟨nd, rfl⟩⟩; (try first | exact ⟨rfl, _, World.drewN_drewN _ _ _⟩ | exact ⟨rfl, _, Eq.trans (World.drewN_drewN _ _ _) (congrArg (World.drewN _) (Nat.add_assoc _ _ _))⟩); have p246 : 0 ≤ ((ji12) : Int) := of_decide_eq_true (by first | (with_reducible assumption) | assumption); have q246 : (ji12) < (l0.length : Int) := of_decide_eq_true (by first | (with_reducible assumption) | assumption); obtain ⟨ad246, e246, hx246_0, hx246_1, hx246_2, hx246_3⟩ := at_T64 HR0.out (ji12) p246 q246; obtain rfl : ad243 = ad246 := (by injection e246); have hn246_0 : ad243.block ≠ gb244 := Nat.ne_of_lt (Nat.lt_of_lt_of_le (by have := World.block_lt_of_cell? _ _ hx246_0; first | rwa [add_block] at this | exact this) GW244.out); have hn246_1 : ad243.block ≠ gb244 := Nat.ne_of_lt (Nat.lt_of_lt_of_le (by have := World.block_lt_of_cell? _ _ hx246_0; first | rwa [add_block] at this | exact this) GW244.out); have hn246_2 : ad243.block ≠ gb244 := Nat.ne_of_lt (Nat.lt_of_lt_of_le (by have := World.block_lt_of_cell? _ _ hx246_0; first | rwa [add_block] at this | exact this) GW244.out); have hn246_3 : ad243.block ≠ gb244 := Nat.ne_of_lt (Nat.lt_of_lt_of_le (by have := World.block_lt_of_cell? _ _ hx246_0; first | rwa [add_block] at this | exact this) GW244.out); replace hx246_0 := (HB.out.cell (World.block_lt_of_cell? w _ hx246_0)).trans hx246_0; replace hx246_1 := (HB.out.cell (World.block_lt_of_cell? w _ hx246_1)).trans hx246_1; replace hx246_2 := (HB.out.cell (World.block_lt_of_cell? w _ hx246_2)).trans hx246_2; replace hx246_3 := (HB.out.cell (World.block_lt_of_cell? w _ hx246_3)).trans hx246_3; replace hx246_0 := (cell_far (p := ⟨gb244, 0, none⟩) (by first | (rw [add_block]; exact hn246_0) | (show (Addr.add _ _).block ≠ _; rw [add_block]; exact hn246_0) | exact hn246_0) (.string ((rd_T64 l0 x12_1).f0))).trans hx246_0; replace hx246_1 := (cell_far (p := ⟨gb244, 0, none⟩) (by first | (rw [add_block]; exact hn246_0) | (show (Addr.add _ _).block ≠ _; rw [add_block]; exact hn246_0) | exact hn246_0) (.string ((rd_T64 l0 x12_1).f0))).trans hx246_1; replace hx246_2 := (cell_far (p := ⟨gb244, 0, none⟩) (by first | (rw [add_block]; exact hn246_0) | (show (Addr.add _ _).block ≠ _; rw [add_block]; exact hn246_0) | exact hn246_0) (.string ((rd_T64 l0 x12_1).f0))).trans hx246_2; replace hx246_3 := (cell_far (p := ⟨gb244, 0, none⟩) (by first | (rw [add_block]; exact hn246_0) | (show (Addr.add _ _).block ≠ _; rw [add_block]; exact hn246_0) | exact hn246_0) (.string ((rd_T64 l0 x12_1).f0))).trans hx246_3; replace hx246_0 := (cell_far (p := ⟨gb244, 1, none⟩) (by first | (rw [add_block]; exact hn246_1) | (show (Addr.add _ _).block ≠ _; rw [add_block]; exact hn246_1) | exact hn246_1) (.string ((rd_T64 l0 x12_1).f1))).trans hx246_0; replace hx246_1 := (cell_far (p := ⟨gb244, 1, none⟩) (by first | (rw [add_block]; exact hn246_1) | (show (Addr.add _ _).block ≠ _; rw [add_block]; exact hn246_1) | exact hn246_1) (.string ((rd_T64 l0 x12_1).f1))).trans hx246_1; replace hx246_2 := (cell_far (p := ⟨gb244, 1, none⟩) (by first | (rw [add_block]; exact hn246_1) | (show (Addr.add _ _).block ≠ _; rw [add_block]; exact hn246_1) | exact hn246_1) (.string ((rd_T64 l0 x12_1).f1))).trans hx246_2; replace hx246_3 := (cell_far (p := ⟨gb244, 1, none⟩) (by first | (rw [add_block]; exact hn246_1) | (show (Addr.add _ _).block ≠ _; rw [add_block]; exact hn246_1) | exact hn246_1) (.string ((rd_T64 l0 x12_1).f1))).trans hx246_3; replace hx246_0 := (cell_far (p := ⟨gb244, 2, none⟩) (by first | (rw [add_block]; exact hn246_2) | (show (Addr.add _ _).block ≠ _; rw [add_block]; exact hn246_2) | exact hn246_2) (.int .i64 ((rd_T64 l0 x12_1).f2))).trans hx246_0; replace hx246_1 := (cell_far (p := ⟨gb244, 2, none⟩) (by first | (rw [add_block]; exact hn246_2) | (show (Addr.add _ _).block ≠ _; rw [add_block]; exact hn246_2) | exact hn246_2) (.int .i64 ((rd_T64 l0 x12_1).f2))).trans hx246_1; replace hx246_2 := (cell_far (p := ⟨gb244, 2, none⟩) (by first | (rw [add_block]; exact hn246_2) | (show (Addr.add _ _).block ≠ _; rw [add_block]; exact hn246_2) | exact hn246_2) (.int .i64 ((rd_T64 l0 x12_1).f2))).trans hx246_2; replace hx246_3 := (cell_far (p := ⟨gb244, 2, none⟩) (by first | (rw [add_block]; exact hn246_2) | (show (Addr.add _ _).block ≠ _; rw [add_block]; exact hn246_2) | exact hn246_2) (.int .i64 ((rd_T64 l0 x12_1).f2))).trans hx246_3; replace hx246_0 := (cell_far (p := ⟨gb244, 3, none⟩) (by first | (rw [add_block]; exact hn246_3) | (show (Addr.add _ _).block ≠ _; rw [add_block]; exact hn246_3) | exact hn246_3) (.int .i64 ((rd_T64 l0 x12_1).f3))).trans hx246_0; replace hx246_1 := (cell_far (p := ⟨gb244, 3, none⟩) (by first | (rw [add_block]; exact hn246_3) | (show (Addr.add _ _).block ≠ _; rw [add_block]; exact hn246_3) | exact hn246_3) (.int .i64 ((rd_T64 l0 x12_1).f3))).trans hx246_1; replace hx246_2 := (cell_far (p := ⟨gb244, 3, none⟩) (by first | (rw [add_block]; exact hn246_3) | (show (Addr.add _ _).block ≠ _; rw [add_block]; exact hn246_3) | exact hn246_3) (.int .i64 ((rd_T64 l0 x12_1).f3))).trans hx246_2; replace hx246_3 := (cell_far (p := ⟨gb244, 3, none⟩) (by first | (rw [add_block]; exact hn246_3) | (show (Addr.add _ _).block ≠ _; rw [add_block]; exact hn246_3) | exact hn246_3) (.int .i64 ((rd_T64 l0 x12_1).f3))).trans hx246_3; (try have hy246_0 := fun (n_ : Nat) => (show ((((((w7.drewN n_).setCell ⟨gb244, 0, none⟩ (.string ((rd_T64 l0 x12_1).f0))).setCell ⟨gb244, 1, none⟩ (.string ((rd_T64 l0 x12_1).f1))).setCell ⟨gb244, 2, none⟩ (.int .i64 ((rd_T64 l0 x12_1).f2))).setCell ⟨gb244, 3, none⟩ (.int .i64 ((rd_T64 l0 x12_1).f3)))).cell? _ = some _ from hx246_0)); (try have hy246_1 := fun (n_ : Nat) => (show ((((((w7.drewN n_).setCell ⟨gb244, 0, none⟩ (.string ((rd_T64 l0 x12_1).f0))).setCell ⟨gb244, 1, none⟩ (.string ((rd_T64 l0 x12_1).f1))).setCell ⟨gb244, 2, none⟩ (.int .i64 ((rd_T64 l0 x12_1).f2))).setCell ⟨gb244, 3, none⟩ (.int .i64 ((rd_T64 l0 x12_1).f3)))).cell? _ = some _ from hx246_1)); (try have hy246_2 := fun (n_ : Nat) => (show ((((((w7.drewN n_).setCell ⟨gb244, 0, none⟩ (.string ((rd_T64 l0 x12_1).f0))).setCell ⟨gb244, 1, none⟩ (.string ((rd_T64 l0 x12_1).f1))).setCell ⟨gb244, 2, none⟩ (.int .i64 ((rd_T64 l0 x12_1).f2))).setCell ⟨gb244, 3, none⟩ (.int .i64 ((rd_T64 l0 x12_1).f3)))).cell? _ = some _ from hx246_2)); (try have hy246_3 := fun (n_ : Nat) => (show ((((((w7.drewN n_).setCell ⟨gb244, 0, none⟩ (.string ((rd_T64 l0 x12_1).f0))).setCell ⟨gb244, 1, none⟩ (.string ((rd_T64 l0 x12_1).f1))).setCell ⟨gb244, 2, none⟩ (.int .i64 ((rd_T64 l0 x12_1).f2))).setCell ⟨gb244, 3, none⟩ (.int .i64 ((rd_T64 l0 x12_1).f3)))).cell? _ = some _ from hx246_3)); clear hn246_0; clear hn246_1; clear hn246_2; clear hn246_3; replace p246 := eq_true p246; replace q246 := eq_true q246))
        repeat (go_quiet (first | (go_at_call 54; (with_reducible refine (sapwoodref03_Key.calls ((rd_T64 l0 x12_1).f0) t245 _ A9.out).mono ?_); rintro e w' ⟨rfl, ⟨nd, rfl⟩⟩; (try first | exact ⟨rfl, _, World.drewN_drewN _ _ _⟩ | exact ⟨rfl, _, Eq.trans (World.drewN_drewN _ _ _) (congrArg (World.drewN _) (Nat.add_assoc _ _ _))⟩); have p246 : 0 ≤ ((ji12) : Int) := of_decide_eq_true (by first | (with_reducible assumption) | assumption); have q246 : (ji12) < (l0.length : Int) := of_decide_eq_true (by first | (with_reducible assumption) | assumption); obtain ⟨ad246, e246, hx246_0, hx246_1, hx246_2, hx246_3⟩ := at_T64 HR0.out (ji12) p246 q246; obtain rfl : ad243 = ad246 := (by injection e246); have hn246_0 : ad243.block ≠ gb244 := Nat.ne_of_lt (Nat.lt_of_lt_of_le (by have := World.block_lt_of_cell? _ _ hx246_0; first | rwa [add_block] at this | exact this) GW244.out); have hn246_1 : ad243.block ≠ gb244 := Nat.ne_of_lt (Nat.lt_of_lt_of_le (by have := World.block_lt_of_cell? _ _ hx246_0; first | rwa [add_block] at this | exact this) GW244.out); have hn246_2 : ad243.block ≠ gb244 := Nat.ne_of_lt (Nat.lt_of_lt_of_le (by have := World.block_lt_of_cell? _ _ hx246_0; first | rwa [add_block] at this | exact this) GW244.out); have hn246_3 : ad243.block ≠ gb244 := Nat.ne_of_lt (Nat.lt_of_lt_of_le (by have := World.block_lt_of_cell? _ _ hx246_0; first | rwa [add_block] at this | exact this) GW244.out); replace hx246_0 := (HB.out.cell (World.block_lt_of_cell? w _ hx246_0)).trans hx246_0; replace hx246_1 := (HB.out.cell (World.block_lt_of_cell? w _ hx246_1)).trans hx246_1; replace hx246_2 := (HB.out.cell (World.block_lt_of_cell? w _ hx246_2)).trans hx246_2; replace hx246_3 := (HB.out.cell (World.block_lt_of_cell? w _ hx246_3)).trans hx246_3; replace hx246_0 := (cell_far (p := ⟨gb244, 0, none⟩) (by first | (rw [add_block]; exact hn246_0) | (show (Addr.add _ _).block ≠ _; rw [add_block]; exact hn246_0) | exact hn246_0) (.string ((rd_T64 l0 x12_1).f0))).trans hx246_0; replace hx246_1 := (cell_far (p := ⟨gb244, 0, none⟩) (by first | (rw [add_block]; exact hn246_0) | (show (Addr.add _ _).block ≠ _; rw [add_block]; exact hn246_0) | exact hn246_0) (.string ((rd_T64 l0 x12_1).f0))).trans hx246_1; replace hx246_2 := (cell_far (p := ⟨gb244, 0, none⟩) (by first | (rw [add_block]; exact hn246_0) | (show (Addr.add _ _).block ≠ _; rw [add_block]; exact hn246_0) | exact hn246_0) (.string ((rd_T64 l0 x12_1).f0))).trans hx246_2; replace hx246_3 := (cell_far (p := ⟨gb244, 0, none⟩) (by first | (rw [add_block]; exact hn246_0) | (show (Addr.add _ _).block ≠ _; rw [add_block]; exact hn246_0) | exact hn246_0) (.string ((rd_T64 l0 x12_1).f0))).trans hx246_3; replace hx246_0 := (cell_far (p := ⟨gb244, 1, none⟩) (by first | (rw [add_block]; exact hn246_1) | (show (Addr.add _ _).block ≠ _; rw [add_block]; exact hn246_1) | exact hn246_1) (.string ((rd_T64 l0 x12_1).f1))).trans hx246_0; replace hx246_1 := (cell_far (p := ⟨gb244, 1, none⟩) (by first | (rw [add_block]; exact hn246_1) | (show (Addr.add _ _).block ≠ _; rw [add_block]; exact hn246_1) | exact hn246_1) (.string ((rd_T64 l0 x12_1).f1))).trans hx246_1; replace hx246_2 := (cell_far (p := ⟨gb244, 1, none⟩) (by first | (rw [add_block]; exact hn246_1) | (show (Addr.add _ _).block ≠ _; rw [add_block]; exact hn246_1) | exact hn246_1) (.string ((rd_T64 l0 x12_1).f1))).trans hx246_2; replace hx246_3 := (cell_far (p := ⟨gb244, 1, none⟩) (by first | (rw [add_block]; exact hn246_1) | (show (Addr.add _ _).block ≠ _; rw [add_block]; exact hn246_1) | exact hn246_1) (.string ((rd_T64 l0 x12_1).f1))).trans hx246_3; replace hx246_0 := (cell_far (p := ⟨gb244, 2, none⟩) (by first | (rw [add_block]; exact hn246_2) | (show (Addr.add _ _).block ≠ _; rw [add_block]; exact hn246_2) | exact hn246_2) (.int .i64 ((rd_T64 l0 x12_1).f2))).trans hx246_0; replace hx246_1 := (cell_far (p := ⟨gb244, 2, none⟩) (by first | (rw [add_block]; exact hn246_2) | (show (Addr.add _ _).block ≠ _; rw [add_block]; exact hn246_2) | exact hn246_2) (.int .i64 ((rd_T64 l0 x12_1).f2))).trans hx246_1; replace hx246_2 := (cell_far (p := ⟨gb244, 2, none⟩) (by first | (rw [add_block]; exact hn246_2) | (show (Addr.add _ _).block ≠ _; rw [add_block]; exact hn246_2) | exact hn246_2) (.int .i64 ((rd_T64 l0 x12_1).f2))).trans hx246_2; replace hx246_3 := (cell_far (p := ⟨gb244, 2, none⟩) (by first | (rw [add_block]; exact hn246_2) | (show (Addr.add _ _).block ≠ _; rw [add_block]; exact hn246_2) | exact hn246_2) (.int .i64 ((rd_T64 l0 x12_1).f2))).trans hx246_3; replace hx246_0 := (cell_far (p := ⟨gb244, 3, none⟩) (by first | (rw [add_block]; exact hn246_3) | (show (Addr.add _ _).block ≠ _; rw [add_block]; exact hn246_3) | exact hn246_3) (.int .i64 ((rd_T64 l0 x12_1).f3))).trans hx246_0; replace hx246_1 := (cell_far (p := ⟨gb244, 3, none⟩) (by first | (rw [add_block]; exact hn246_3) | (show (Addr.add _ _).block ≠ _; rw [add_block]; exact hn246_3) | exact hn246_3) (.int .i64 ((rd_T64 l0 x12_1).f3))).trans hx246_1; replace hx246_2 := (cell_far (p := ⟨gb244, 3, none⟩) (by first | (rw [add_block]; exact hn246_3) | (show (Addr.add _ _).block ≠ _; rw [add_block]; exact hn246_3) | exact hn246_3) (.int .i64 ((rd_T64 l0 x12_1).f3))).trans hx246_2; replace hx246_3 := (cell_far (p := ⟨gb244, 3, none⟩) (by first | (rw [add_block]; exact hn246_3) | (show (Addr.add _ _).block ≠ _; rw [add_block]; exact hn246_3) | exact hn246_3) (.int .i64 ((rd_T64 l0 x12_1).f3))).trans hx246_3; (try have hy246_0 := fun (n_ : Nat) => (show ((((((w7.drewN n_).setCell ⟨gb244, 0, none⟩ (.string ((rd_T64 l0 x12_1).f0))).setCell ⟨gb244, 1, none⟩ (.string ((rd_T64 l0 x12_1).f1))).setCell ⟨gb244, 2, none⟩ (.int .i64 ((rd_T64 l0 x12_1).f2))).setCell ⟨gb244, 3, none⟩ (.int .i64 ((rd_T64 l0 x12_1).f3)))).cell? _ = some _ from hx246_0)); (try have hy246_1 := fun (n_ : Nat) => (show ((((((w7.drewN n_).setCell ⟨gb244, 0, none⟩ (.string ((rd_T64 l0 x12_1).f0))).setCell ⟨gb244, 1, none⟩ (.string ((rd_T64 l0 x12_1).f1))).setCell ⟨gb244, 2, none⟩ (.int .i64 ((rd_T64 l0 x12_1).f2))).setCell ⟨gb244, 3, none⟩ (.int .i64 ((rd_T64 l0 x12_1).f3)))).cell? _ = some _ from hx246_1)); (try have hy246_2 := fun (n_ : Nat) => (show ((((((w7.drewN n_).setCell ⟨gb244, 0, none⟩ (.string ((rd_T64 l0 x12_1).f0))).setCell ⟨gb244, 1, none⟩ (.string ((rd_T64 l0 x12_1).f1))).setCell ⟨gb244, 2, none⟩ (.int .i64 ((rd_T64 l0 x12_1).f2))).setCell ⟨gb244, 3, none⟩ (.int .i64 ((rd_T64 l0 x12_1).f3)))).cell? _ = some _ from hx246_2)); (try have hy246_3 := fun (n_ : Nat) => (show ((((((w7.drewN n_).setCell ⟨gb244, 0, none⟩ (.string ((rd_T64 l0 x12_1).f0))).setCell ⟨gb244, 1, none⟩ (.string ((rd_T64 l0 x12_1).f1))).setCell ⟨gb244, 2, none⟩ (.int .i64 ((rd_T64 l0 x12_1).f2))).setCell ⟨gb244, 3, none⟩ (.int .i64 ((rd_T64 l0 x12_1).f3)))).cell? _ = some _ from hx246_3)); clear hn246_0; clear hn246_1; clear hn246_2; clear hn246_3; replace p246 := eq_true p246; replace q246 := eq_true q246)); try go_wp2_with (first | (go_at_call 54; (with_reducible refine (sapwoodref03_Key.calls ((rd_T64 l0 x12_1).f0) t245 _ A9.out).mono ?_); rintro e w' ⟨rfl, ⟨nd, rfl⟩⟩; (try first | exact ⟨rfl, _, World.drewN_drewN _ _ _⟩ | exact ⟨rfl, _, Eq.trans (World.drewN_drewN _ _ _) (congrArg (World.drewN _) (Nat.add_assoc _ _ _))⟩); have p246 : 0 ≤ ((ji12) : Int) := of_decide_eq_true (by first | (with_reducible assumption) | assumption); have q246 : (ji12) < (l0.length : Int) := of_decide_eq_true (by first | (with_reducible assumption) | assumption); obtain ⟨ad246, e246, hx246_0, hx246_1, hx246_2, hx246_3⟩ := at_T64 HR0.out (ji12) p246 q246; obtain rfl : ad243 = ad246 := (by injection e246); have hn246_0 : ad243.block ≠ gb244 := Nat.ne_of_lt (Nat.lt_of_lt_of_le (by have := World.block_lt_of_cell? _ _ hx246_0; first | rwa [add_block] at this | exact this) GW244.out); have hn246_1 : ad243.block ≠ gb244 := Nat.ne_of_lt (Nat.lt_of_lt_of_le (by have := World.block_lt_of_cell? _ _ hx246_0; first | rwa [add_block] at this | exact this) GW244.out); have hn246_2 : ad243.block ≠ gb244 := Nat.ne_of_lt (Nat.lt_of_lt_of_le (by have := World.block_lt_of_cell? _ _ hx246_0; first | rwa [add_block] at this | exact this) GW244.out); have hn246_3 : ad243.block ≠ gb244 := Nat.ne_of_lt (Nat.lt_of_lt_of_le (by have := World.block_lt_of_cell? _ _ hx246_0; first | rwa [add_block] at this | exact this) GW244.out); replace hx246_0 := (HB.out.cell (World.block_lt_of_cell? w _ hx246_0)).trans hx246_0; replace hx246_1 := (HB.out.cell (World.block_lt_of_cell? w _ hx246_1)).trans hx246_1; replace hx246_2 := (HB.out.cell (World.block_lt_of_cell? w _ hx246_2)).trans hx246_2; replace hx246_3 := (HB.out.cell (World.block_lt_of_cell? w _ hx246_3)).trans hx246_3; replace hx246_0 := (cell_far (p := ⟨gb244, 0, none⟩) (by first | (rw [add_block]; exact hn246_0) | (show (Addr.add _ _).block ≠ _; rw [add_block]; exact hn246_0) | exact hn246_0) (.string ((rd_T64 l0 x12_1).f0))).trans hx246_0; replace hx246_1 := (cell_far (p := ⟨gb244, 0, none⟩) (by first | (rw [add_block]; exact hn246_0) | (show (Addr.add _ _).block ≠ _; rw [add_block]; exact hn246_0) | exact hn246_0) (.string ((rd_T64 l0 x12_1).f0))).trans hx246_1; replace hx246_2 := (cell_far (p := ⟨gb244, 0, none⟩) (by first | (rw [add_block]; exact hn246_0) | (show (Addr.add _ _).block ≠ _; rw [add_block]; exact hn246_0) | exact hn246_0) (.string ((rd_T64 l0 x12_1).f0))).trans hx246_2; replace hx246_3 := (cell_far (p := ⟨gb244, 0, none⟩) (by first | (rw [add_block]; exact hn246_0) | (show (Addr.add _ _).block ≠ _; rw [add_block]; exact hn246_0) | exact hn246_0) (.string ((rd_T64 l0 x12_1).f0))).trans hx246_3; replace hx246_0 := (cell_far (p := ⟨gb244, 1, none⟩) (by first | (rw [add_block]; exact hn246_1) | (show (Addr.add _ _).block ≠ _; rw [add_block]; exact hn246_1) | exact hn246_1) (.string ((rd_T64 l0 x12_1).f1))).trans hx246_0; replace hx246_1 := (cell_far (p := ⟨gb244, 1, none⟩) (by first | (rw [add_block]; exact hn246_1) | (show (Addr.add _ _).block ≠ _; rw [add_block]; exact hn246_1) | exact hn246_1) (.string ((rd_T64 l0 x12_1).f1))).trans hx246_1; replace hx246_2 := (cell_far (p := ⟨gb244, 1, none⟩) (by first | (rw [add_block]; exact hn246_1) | (show (Addr.add _ _).block ≠ _; rw [add_block]; exact hn246_1) | exact hn246_1) (.string ((rd_T64 l0 x12_1).f1))).trans hx246_2; replace hx246_3 := (cell_far (p := ⟨gb244, 1, none⟩) (by first | (rw [add_block]; exact hn246_1) | (show (Addr.add _ _).block ≠ _; rw [add_block]; exact hn246_1) | exact hn246_1) (.string ((rd_T64 l0 x12_1).f1))).trans hx246_3; replace hx246_0 := (cell_far (p := ⟨gb244, 2, none⟩) (by first | (rw [add_block]; exact hn246_2) | (show (Addr.add _ _).block ≠ _; rw [add_block]; exact hn246_2) | exact hn246_2) (.int .i64 ((rd_T64 l0 x12_1).f2))).trans hx246_0; replace hx246_1 := (cell_far (p := ⟨gb244, 2, none⟩) (by first | (rw [add_block]; exact hn246_2) | (show (Addr.add _ _).block ≠ _; rw [add_block]; exact hn246_2) | exact hn246_2) (.int .i64 ((rd_T64 l0 x12_1).f2))).trans hx246_1; replace hx246_2 := (cell_far (p := ⟨gb244, 2, none⟩) (by first | (rw [add_block]; exact hn246_2) | (show (Addr.add _ _).block ≠ _; rw [add_block]; exact hn246_2) | exact hn246_2) (.int .i64 ((rd_T64 l0 x12_1).f2))).trans hx246_2; replace hx246_3 := (cell_far (p := ⟨gb244, 2, none⟩) (by first | (rw [add_block]; exact hn246_2) | (show (Addr.add _ _).block ≠ _; rw [add_block]; exact hn246_2) | exact hn246_2) (.int .i64 ((rd_T64 l0 x12_1).f2))).trans hx246_3; replace hx246_0 := (cell_far (p := ⟨gb244, 3, none⟩) (by first | (rw [add_block]; exact hn246_3) | (show (Addr.add _ _).block ≠ _; rw [add_block]; exact hn246_3) | exact hn246_3) (.int .i64 ((rd_T64 l0 x12_1).f3))).trans hx246_0; replace hx246_1 := (cell_far (p := ⟨gb244, 3, none⟩) (by first | (rw [add_block]; exact hn246_3) | (show (Addr.add _ _).block ≠ _; rw [add_block]; exact hn246_3) | exact hn246_3) (.int .i64 ((rd_T64 l0 x12_1).f3))).trans hx246_1; replace hx246_2 := (cell_far (p := ⟨gb244, 3, none⟩) (by first | (rw [add_block]; exact hn246_3) | (show (Addr.add _ _).block ≠ _; rw [add_block]; exact hn246_3) | exact hn246_3) (.int .i64 ((rd_T64 l0 x12_1).f3))).trans hx246_2; replace hx246_3 := (cell_far (p := ⟨gb244, 3, none⟩) (by first | (rw [add_block]; exact hn246_3) | (show (Addr.add _ _).block ≠ _; rw [add_block]; exact hn246_3) | exact hn246_3) (.int .i64 ((rd_T64 l0 x12_1).f3))).trans hx246_3; (try have hy246_0 := fun (n_ : Nat) => (show ((((((w7.drewN n_).setCell ⟨gb244, 0, none⟩ (.string ((rd_T64 l0 x12_1).f0))).setCell ⟨gb244, 1, none⟩ (.string ((rd_T64 l0 x12_1).f1))).setCell ⟨gb244, 2, none⟩ (.int .i64 ((rd_T64 l0 x12_1).f2))).setCell ⟨gb244, 3, none⟩ (.int .i64 ((rd_T64 l0 x12_1).f3)))).cell? _ = some _ from hx246_0)); (try have hy246_1 := fun (n_ : Nat) => (show ((((((w7.drewN n_).setCell ⟨gb244, 0, none⟩ (.string ((rd_T64 l0 x12_1).f0))).setCell ⟨gb244, 1, none⟩ (.string ((rd_T64 l0 x12_1).f1))).setCell ⟨gb244, 2, none⟩ (.int .i64 ((rd_T64 l0 x12_1).f2))).setCell ⟨gb244, 3, none⟩ (.int .i64 ((rd_T64 l0 x12_1).f3)))).cell? _ = some _ from hx246_1)); (try have hy246_2 := fun (n_ : Nat) => (show ((((((w7.drewN n_).setCell ⟨gb244, 0, none⟩ (.string ((rd_T64 l0 x12_1).f0))).setCell ⟨gb244, 1, none⟩ (.string ((rd_T64 l0 x12_1).f1))).setCell ⟨gb244, 2, none⟩ (.int .i64 ((rd_T64 l0 x12_1).f2))).setCell ⟨gb244, 3, none⟩ (.int .i64 ((rd_T64 l0 x12_1).f3)))).cell? _ = some _ from hx246_2)); (try have hy246_3 := fun (n_ : Nat) => (show ((((((w7.drewN n_).setCell ⟨gb244, 0, none⟩ (.string ((rd_T64 l0 x12_1).f0))).setCell ⟨gb244, 1, none⟩ (.string ((rd_T64 l0 x12_1).f1))).setCell ⟨gb244, 2, none⟩ (.int .i64 ((rd_T64 l0 x12_1).f2))).setCell ⟨gb244, 3, none⟩ (.int .i64 ((rd_T64 l0 x12_1).f3)))).cell? _ = some _ from hx246_3)); clear hn246_0; clear hn246_1; clear hn246_2; clear hn246_3; replace p246 := eq_true p246; replace q246 := eq_true q246)))
        go_meet
        case rel => exact ⟨_, (!(Op.bytesLess (((rd_T64 l0 (ji12)).f0).toList) (((rd_T64 l0 x12_1).f0).toList))), (by first | rfl | (simp; done) | (simp only [← hji12] <;> (first | rfl | simp)) | (simp [*]; done)), H', ⟨by have := HK1.out; first | omega | exact Nat.le_refl _⟩, ⟨by (with_reducible repeat (first | refine blk_drewN ?_ _ | refine blk_drew ?_ | refine blk_alloc ?_ _)); refine blk_put (cs := #[.string ((rd_T64 l0 x12_1).f0), .string ((rd_T64 l0 x12_1).f1), .int .i64 ((rd_T64 l0 x12_1).f2), .int .i64 0]) ?_ 3 _ rfl; (with_reducible repeat (first | refine blk_drewN ?_ _ | refine blk_drew ?_ | refine blk_alloc ?_ _)); refine blk_put (cs := #[.string ((rd_T64 l0 x12_1).f0), .string ((rd_T64 l0 x12_1).f1), .int .i64 0, .int .i64 0]) ?_ 2 _ rfl; (with_reducible repeat (first | refine blk_drewN ?_ _ | refine blk_drew ?_ | refine blk_alloc ?_ _)); refine blk_put (cs := #[.string ((rd_T64 l0 x12_1).f0), .string (⟨#[]⟩ : ByteArray), .int .i64 0, .int .i64 0]) ?_ 1 _ rfl; (with_reducible repeat (first | refine blk_drewN ?_ _ | refine blk_drew ?_ | refine blk_alloc ?_ _)); refine blk_put (cs := #[.string (⟨#[]⟩ : ByteArray), .string (⟨#[]⟩ : ByteArray), .int .i64 0, .int .i64 0]) ?_ 0 _ rfl; (with_reducible repeat (first | refine blk_drewN ?_ _ | refine blk_drew ?_ | refine blk_alloc ?_ _)); exact BK244.out⟩, ⟨by repeat (first | (with_reducible first | exact HB.out | apply below_alloc | apply pw_below_drewN | apply below_drew1 | refine below_set ?_ GE244.out) | exact HB.out)⟩⟩
      case rest =>
        clear HC6
        try clear c1
        try clear c2
        try clear c2b0
        try clear c2b1
        try clear p2
        try clear q2
        try clear hx2
        try clear c3
        try clear c3b0
        try clear c4
        try clear c4b0
        try clear c5
        try clear c5b0
        try clear p6
        try clear c10
        try clear c10b0
        try clear c10b1
        try clear c11
        try clear c11b0
        try clear c13
        try clear c13b0
        try clear c14
        try clear c14b0
        try clear hcz15_0
        try clear hcz15_1
        try clear hcz15_2
        try clear hcz15_3
        try clear hcz16_0
        try clear hcz16_1
        try clear hcz16_2
        try clear hcz16_3
        try clear hcz17_0
        try clear hcz17_1
        try clear hcz17_2
        try clear hcz17_3
        try clear hcz8_0
        try clear hcz8_1
        try clear hcz8_2
        try clear hcz8_3
        try clear hfz15_0
        try clear hfz15_1
        try clear hfz15_2
        try clear hfz15_3
        try clear hfz16_0
        try clear hfz16_1
        try clear hfz16_2
        try clear hfz16_3
        try clear hfz17_0
        try clear hfz17_1
        try clear hfz17_2
        try clear hfz17_3
        try clear hfz8_0
        try clear hfz8_1
        try clear hfz8_2
        try clear hfz8_3
        try clear hx243_0
        try clear hx243_1
        try clear hx243_2
        try clear hx243_3
        try clear hx246_0
        try clear hx246_1
        try clear hx246_2
        try clear hx246_3
        try clear p2
        try clear p243
        try clear p246
        try clear q243
        try clear q246
        obtain ⟨kq, x37_5, rfl, HA, HJ5, BK244, HB⟩ := hcut
        cases kq with
        | zero => exact absurd HA.out (by simp [sapwoodref04_cells.j1])
        | succ kj5 =>
          have H := HA.out
          clear HA
          simp only [sapwoodref04_cells.j1] at H
          by_cases c18 : x37_5 = true
          · subst c18
            have H1 : (some false) = some r := by rw [if_pos rfl] at H; exact H
            clear H
            have H := H1
            clear H1
            obtain rfl := Option.some.inj H
            go_wp2
            repeat (go_quiet (fail); try go_wp2)
            go_ret
            exact ⟨by first | rfl | (simp [errW_none, errW_some] <;> rfl) | (simp [*, errW_none, errW_some] <;> rfl), by repeat (first | (with_reducible first | exact HB.out | apply below_alloc | apply pw_below_drewN | apply below_drew1 | refine below_set ?_ GE244.out) | exact HB.out)⟩
          replace c18 := Bool.eq_false_iff.mpr c18
          subst c18
          have H1 : (if (((rd_T64 l0 x12_1).f1).size : Int) ≤ 24 then (if ((rd_T64 l0 x12_1).f2) = 0 then (if ((rd_T64 l0 x12_1).f1).toList = ([] : List UInt8) then (if ((rd_T64 l0 x12_1).f2) ≥ 25 then (if ((rd_T64 l0 x12_1).f2) ≤ 400 then ((sapwoodref04_Number.f ((rd_T64 l0 x12_1).f3)).bind fun t247 => (if ((rd_T64 l0 x12_1).f3) = 0 then (sapwoodref04_cells.l0 kj5 l0 (l0.length : Int) (wrap64 (x12_1 + 1))) else (if t247 = true then (sapwoodref04_cells.l0 kj5 l0 (l0.length : Int) (wrap64 (x12_1 + 1))) else (some false)))) else (if ((rd_T64 l0 x12_1).f3) = 0 then (sapwoodref04_cells.l0 kj5 l0 (l0.length : Int) (wrap64 (x12_1 + 1))) else (some false))) else (if ((rd_T64 l0 x12_1).f3) = 0 then (sapwoodref04_cells.l0 kj5 l0 (l0.length : Int) (wrap64 (x12_1 + 1))) else (some false))) else (if ((rd_T64 l0 x12_1).f3) = 0 then (sapwoodref04_cells.l0 kj5 l0 (l0.length : Int) (wrap64 (x12_1 + 1))) else (some false))) else (if ((rd_T64 l0 x12_1).f1).toList = ([] : List UInt8) then (if ((rd_T64 l0 x12_1).f2) ≥ 25 then (if ((rd_T64 l0 x12_1).f2) ≤ 400 then ((sapwoodref04_Number.f ((rd_T64 l0 x12_1).f3)).bind fun t248 => (if t248 = true then (sapwoodref04_cells.l0 kj5 l0 (l0.length : Int) (wrap64 (x12_1 + 1))) else (some false))) else (some false)) else (some false)) else (some false))) else (if ((rd_T64 l0 x12_1).f1).toList = ([] : List UInt8) then (if ((rd_T64 l0 x12_1).f2) ≥ 25 then (if ((rd_T64 l0 x12_1).f2) ≤ 400 then ((sapwoodref04_Number.f ((rd_T64 l0 x12_1).f3)).bind fun t249 => (if t249 = true then (sapwoodref04_cells.l0 kj5 l0 (l0.length : Int) (wrap64 (x12_1 + 1))) else (some false))) else (some false)) else (some false)) else (some false))) = some r := by rw [if_neg (show ¬ (false = true) by decide)] at H; exact H
          clear H
          have H := H1
          clear H1
          by_cases c19 : (((rd_T64 l0 x12_1).f1).size : Int) ≤ 24
          rotate_left
          · rw [if_neg c19] at H
            have c19b0 : decide ((((rd_T64 l0 x12_1).f1).size : Int) ≤ 24) = false := decide_eq_false c19
            have c19b1 : decide (((rd_T64 l0 x12_1).f1).size ≤ 24) = false := decide_eq_false (by omega)
            clear c19
            by_cases c49 : ((rd_T64 l0 x12_1).f1).toList = ([] : List UInt8)
            rotate_left
            · rw [if_neg c49] at H
              have c49b0 : (((rd_T64 l0 x12_1).f1).toList == ([] : List UInt8)) = false := beq_eq_false_iff_ne.mpr c49
              have c49b1 : (((rd_T64 l0 x12_1).f1).toList != ([] : List UInt8)) = true := bne_iff_ne.mpr c49
              obtain rfl := Option.some.inj H
              have hcz58_0 : wc.cell? ⟨gb244, 0, none⟩ = some (.string ((rd_T64 l0 x12_1).f0)) := (blk_cell BK244.out 0).trans rfl
              have hcz58_1 : wc.cell? ⟨gb244, 1, none⟩ = some (.string ((rd_T64 l0 x12_1).f1)) := (blk_cell BK244.out 1).trans rfl
              have hcz58_2 : wc.cell? ⟨gb244, 2, none⟩ = some (.int .i64 ((rd_T64 l0 x12_1).f2)) := (blk_cell BK244.out 2).trans rfl
              have hcz58_3 : wc.cell? ⟨gb244, 3, none⟩ = some (.int .i64 ((rd_T64 l0 x12_1).f3)) := (blk_cell BK244.out 3).trans rfl
              have hfz58_0 := blk_frozen BK244.out 0
              have hfz58_1 := blk_frozen BK244.out 1
              have hfz58_2 := blk_frozen BK244.out 2
              have hfz58_3 := blk_frozen BK244.out 3
              go_wp2
              repeat (go_quiet (fail); try go_wp2)
              go_ret
              exact ⟨by first | rfl | (simp [errW_none, errW_some] <;> rfl) | (simp [*, errW_none, errW_some] <;> rfl), by repeat (first | (with_reducible first | exact HB.out | apply below_alloc | apply pw_below_drewN | apply below_drew1 | refine below_set ?_ GE244.out) | exact HB.out)⟩
            rw [if_pos c49] at H
            have c49b0 : (((rd_T64 l0 x12_1).f1).toList == ([] : List UInt8)) = true := beq_iff_eq.mpr c49
            have c49b1 : (((rd_T64 l0 x12_1).f1).toList != ([] : List UInt8)) = false := bne_eq_false_iff_eq.mpr c49
            clear c49
            by_cases c50 : ((rd_T64 l0 x12_1).f2) ≥ 25
            rotate_left
            · rw [if_neg c50] at H
              have c50b0 : decide (25 ≤ ((rd_T64 l0 x12_1).f2)) = false := decide_eq_false c50
              clear c50
              obtain rfl := Option.some.inj H
              have hcz57_0 : wc.cell? ⟨gb244, 0, none⟩ = some (.string ((rd_T64 l0 x12_1).f0)) := (blk_cell BK244.out 0).trans rfl
              have hcz57_1 : wc.cell? ⟨gb244, 1, none⟩ = some (.string ((rd_T64 l0 x12_1).f1)) := (blk_cell BK244.out 1).trans rfl
              have hcz57_2 : wc.cell? ⟨gb244, 2, none⟩ = some (.int .i64 ((rd_T64 l0 x12_1).f2)) := (blk_cell BK244.out 2).trans rfl
              have hcz57_3 : wc.cell? ⟨gb244, 3, none⟩ = some (.int .i64 ((rd_T64 l0 x12_1).f3)) := (blk_cell BK244.out 3).trans rfl
              have hfz57_0 := blk_frozen BK244.out 0
              have hfz57_1 := blk_frozen BK244.out 1
              have hfz57_2 := blk_frozen BK244.out 2
              have hfz57_3 := blk_frozen BK244.out 3
              go_wp2
              repeat (go_quiet (fail); try go_wp2)
              go_ret
              exact ⟨by first | rfl | (simp [errW_none, errW_some] <;> rfl) | (simp [*, errW_none, errW_some] <;> rfl), by repeat (first | (with_reducible first | exact HB.out | apply below_alloc | apply pw_below_drewN | apply below_drew1 | refine below_set ?_ GE244.out) | exact HB.out)⟩
            rw [if_pos c50] at H
            have c50b0 := decide_eq_true c50
            clear c50
            by_cases c51 : ((rd_T64 l0 x12_1).f2) ≤ 400
            rotate_left
            · rw [if_neg c51] at H
              have c51b0 : decide (((rd_T64 l0 x12_1).f2) ≤ 400) = false := decide_eq_false c51
              clear c51
              obtain rfl := Option.some.inj H
              have hcz56_0 : wc.cell? ⟨gb244, 0, none⟩ = some (.string ((rd_T64 l0 x12_1).f0)) := (blk_cell BK244.out 0).trans rfl
              have hcz56_1 : wc.cell? ⟨gb244, 1, none⟩ = some (.string ((rd_T64 l0 x12_1).f1)) := (blk_cell BK244.out 1).trans rfl
              have hcz56_2 : wc.cell? ⟨gb244, 2, none⟩ = some (.int .i64 ((rd_T64 l0 x12_1).f2)) := (blk_cell BK244.out 2).trans rfl
              have hcz56_3 : wc.cell? ⟨gb244, 3, none⟩ = some (.int .i64 ((rd_T64 l0 x12_1).f3)) := (blk_cell BK244.out 3).trans rfl
              have hfz56_0 := blk_frozen BK244.out 0
              have hfz56_1 := blk_frozen BK244.out 1
              have hfz56_2 := blk_frozen BK244.out 2
              have hfz56_3 := blk_frozen BK244.out 3
              go_wp2
              repeat (go_quiet (fail); try go_wp2)
              go_ret
              exact ⟨by first | rfl | (simp [errW_none, errW_some] <;> rfl) | (simp [*, errW_none, errW_some] <;> rfl), by repeat (first | (with_reducible first | exact HB.out | apply below_alloc | apply pw_below_drewN | apply below_drew1 | refine below_set ?_ GE244.out) | exact HB.out)⟩
            rw [if_pos c51] at H
            have c51b0 := decide_eq_true c51
            clear c51
            replace H := Option.bind_eq_some_iff.mp H
            obtain ⟨t249, A520, H⟩ := H
            replace H : (if t249 = true then (sapwoodref04_cells.l0 kj5 l0 (l0.length : Int) (wrap64 (x12_1 + 1))) else (some false)) = some r := H
            have A52 := Aside0.mk A520
            clear A520
            by_cases c53 : t249 = true
            rotate_left
            · replace c53 := Bool.eq_false_iff.mpr c53
              subst c53
              have H1 : (some false) = some r := by rw [if_neg (show ¬ (false = true) by decide)] at H; exact H
              clear H
              have H := H1
              clear H1
              obtain rfl := Option.some.inj H
              have hcz55_0 : wc.cell? ⟨gb244, 0, none⟩ = some (.string ((rd_T64 l0 x12_1).f0)) := (blk_cell BK244.out 0).trans rfl
              have hcz55_1 : wc.cell? ⟨gb244, 1, none⟩ = some (.string ((rd_T64 l0 x12_1).f1)) := (blk_cell BK244.out 1).trans rfl
              have hcz55_2 : wc.cell? ⟨gb244, 2, none⟩ = some (.int .i64 ((rd_T64 l0 x12_1).f2)) := (blk_cell BK244.out 2).trans rfl
              have hcz55_3 : wc.cell? ⟨gb244, 3, none⟩ = some (.int .i64 ((rd_T64 l0 x12_1).f3)) := (blk_cell BK244.out 3).trans rfl
              have hfz55_0 := blk_frozen BK244.out 0
              have hfz55_1 := blk_frozen BK244.out 1
              have hfz55_2 := blk_frozen BK244.out 2
              have hfz55_3 := blk_frozen BK244.out 3
              go_wp2_with (first | (go_at_call 38; (with_reducible refine (sapwoodref04_Number.calls ((rd_T64 l0 x12_1).f3) false _ A52.out).mono ?_); rintro e w' ⟨rfl, ⟨nd, rfl⟩⟩; (try first | exact ⟨rfl, _, World.drewN_drewN _ _ _⟩ | exact ⟨rfl, _, Eq.trans (World.drewN_drewN _ _ _) (congrArg (World.drewN _) (Nat.add_assoc _ _ _))⟩)))
              repeat (go_quiet (first | (go_at_call 38; (with_reducible refine (sapwoodref04_Number.calls ((rd_T64 l0 x12_1).f3) false _ A52.out).mono ?_); rintro e w' ⟨rfl, ⟨nd, rfl⟩⟩; (try first | exact ⟨rfl, _, World.drewN_drewN _ _ _⟩ | exact ⟨rfl, _, Eq.trans (World.drewN_drewN _ _ _) (congrArg (World.drewN _) (Nat.add_assoc _ _ _))⟩))); try go_wp2_with (first | (go_at_call 38; (with_reducible refine (sapwoodref04_Number.calls ((rd_T64 l0 x12_1).f3) false _ A52.out).mono ?_); rintro e w' ⟨rfl, ⟨nd, rfl⟩⟩; (try first | exact ⟨rfl, _, World.drewN_drewN _ _ _⟩ | exact ⟨rfl, _, Eq.trans (World.drewN_drewN _ _ _) (congrArg (World.drewN _) (Nat.add_assoc _ _ _))⟩))))
              go_ret
              exact ⟨by first | rfl | (simp [errW_none, errW_some] <;> rfl) | (simp [*, errW_none, errW_some] <;> rfl), by repeat (first | (with_reducible first | exact HB.out | apply below_alloc | apply pw_below_drewN | apply below_drew1 | refine below_set ?_ GE244.out) | exact HB.out)⟩
            subst c53
            have H1 : (sapwoodref04_cells.l0 kj5 l0 (l0.length : Int) (wrap64 (x12_1 + 1))) = some r := by rw [if_pos rfl] at H; exact H
            clear H
            have H := H1
            clear H1
            have H' := Aside0.mk H
            clear H
            have hcz54_0 : wc.cell? ⟨gb244, 0, none⟩ = some (.string ((rd_T64 l0 x12_1).f0)) := (blk_cell BK244.out 0).trans rfl
            have hcz54_1 : wc.cell? ⟨gb244, 1, none⟩ = some (.string ((rd_T64 l0 x12_1).f1)) := (blk_cell BK244.out 1).trans rfl
            have hcz54_2 : wc.cell? ⟨gb244, 2, none⟩ = some (.int .i64 ((rd_T64 l0 x12_1).f2)) := (blk_cell BK244.out 2).trans rfl
            have hcz54_3 : wc.cell? ⟨gb244, 3, none⟩ = some (.int .i64 ((rd_T64 l0 x12_1).f3)) := (blk_cell BK244.out 3).trans rfl
            have hfz54_0 := blk_frozen BK244.out 0
            have hfz54_1 := blk_frozen BK244.out 1
            have hfz54_2 := blk_frozen BK244.out 2
            have hfz54_3 := blk_frozen BK244.out 3
            go_wp2_with (first | (go_at_call 38; (with_reducible refine (sapwoodref04_Number.calls ((rd_T64 l0 x12_1).f3) true _ A52.out).mono ?_); rintro e w' ⟨rfl, ⟨nd, rfl⟩⟩; (try first | exact ⟨rfl, _, World.drewN_drewN _ _ _⟩ | exact ⟨rfl, _, Eq.trans (World.drewN_drewN _ _ _) (congrArg (World.drewN _) (Nat.add_assoc _ _ _))⟩)))
            repeat (go_quiet (first | (go_at_call 38; (with_reducible refine (sapwoodref04_Number.calls ((rd_T64 l0 x12_1).f3) true _ A52.out).mono ?_); rintro e w' ⟨rfl, ⟨nd, rfl⟩⟩; (try first | exact ⟨rfl, _, World.drewN_drewN _ _ _⟩ | exact ⟨rfl, _, Eq.trans (World.drewN_drewN _ _ _) (congrArg (World.drewN _) (Nat.add_assoc _ _ _))⟩))); try go_wp2_with (first | (go_at_call 38; (with_reducible refine (sapwoodref04_Number.calls ((rd_T64 l0 x12_1).f3) true _ A52.out).mono ?_); rintro e w' ⟨rfl, ⟨nd, rfl⟩⟩; (try first | exact ⟨rfl, _, World.drewN_drewN _ _ _⟩ | exact ⟨rfl, _, Eq.trans (World.drewN_drewN _ _ _) (congrArg (World.drewN _) (Nat.add_assoc _ _ _))⟩))))
            go_roundg kj5
            case measure => have := HK1.out; have := HJ5.out; omega
            case rel => exact ⟨(wrap64 (x12_1 + 1)), (by first | rfl | (simp; done) | (simp [*]; done)), H', ⟨by have := HK1.out; have := HJ5.out; omega⟩, ⟨by repeat (first | (with_reducible first | exact HB.out | apply below_alloc | apply pw_below_drewN | apply below_drew1 | refine below_set ?_ GE244.out) | exact HB.out)⟩⟩
          rw [if_pos c19] at H
          have c19b0 := decide_eq_true c19
          have c19b1 : decide (((rd_T64 l0 x12_1).f1).size ≤ 24) = true := decide_eq_true (by omega)
          clear c19
          by_cases c20 : ((rd_T64 l0 x12_1).f2) = 0
          rotate_left
          · rw [if_neg c20] at H
            have c20b0 : (((rd_T64 l0 x12_1).f2) == 0) = false := beq_eq_false_iff_ne.mpr c20
            have c20b1 : (((rd_T64 l0 x12_1).f2) != 0) = true := bne_iff_ne.mpr c20
            by_cases c39 : ((rd_T64 l0 x12_1).f1).toList = ([] : List UInt8)
            rotate_left
            · rw [if_neg c39] at H
              have c39b0 : (((rd_T64 l0 x12_1).f1).toList == ([] : List UInt8)) = false := beq_eq_false_iff_ne.mpr c39
              have c39b1 : (((rd_T64 l0 x12_1).f1).toList != ([] : List UInt8)) = true := bne_iff_ne.mpr c39
              obtain rfl := Option.some.inj H
              have hcz48_0 : wc.cell? ⟨gb244, 0, none⟩ = some (.string ((rd_T64 l0 x12_1).f0)) := (blk_cell BK244.out 0).trans rfl
              have hcz48_1 : wc.cell? ⟨gb244, 1, none⟩ = some (.string ((rd_T64 l0 x12_1).f1)) := (blk_cell BK244.out 1).trans rfl
              have hcz48_2 : wc.cell? ⟨gb244, 2, none⟩ = some (.int .i64 ((rd_T64 l0 x12_1).f2)) := (blk_cell BK244.out 2).trans rfl
              have hcz48_3 : wc.cell? ⟨gb244, 3, none⟩ = some (.int .i64 ((rd_T64 l0 x12_1).f3)) := (blk_cell BK244.out 3).trans rfl
              have hfz48_0 := blk_frozen BK244.out 0
              have hfz48_1 := blk_frozen BK244.out 1
              have hfz48_2 := blk_frozen BK244.out 2
              have hfz48_3 := blk_frozen BK244.out 3
              go_wp2
              repeat (go_quiet (fail); try go_wp2)
              go_ret
              exact ⟨by first | rfl | (simp [errW_none, errW_some] <;> rfl) | (simp [*, errW_none, errW_some] <;> rfl), by repeat (first | (with_reducible first | exact HB.out | apply below_alloc | apply pw_below_drewN | apply below_drew1 | refine below_set ?_ GE244.out) | exact HB.out)⟩
            rw [if_pos c39] at H
            have c39b0 : (((rd_T64 l0 x12_1).f1).toList == ([] : List UInt8)) = true := beq_iff_eq.mpr c39
            have c39b1 : (((rd_T64 l0 x12_1).f1).toList != ([] : List UInt8)) = false := bne_eq_false_iff_eq.mpr c39
            clear c39
            by_cases c40 : ((rd_T64 l0 x12_1).f2) ≥ 25
            rotate_left
            · rw [if_neg c40] at H
              have c40b0 : decide (25 ≤ ((rd_T64 l0 x12_1).f2)) = false := decide_eq_false c40
              clear c40
              obtain rfl := Option.some.inj H
              have hcz47_0 : wc.cell? ⟨gb244, 0, none⟩ = some (.string ((rd_T64 l0 x12_1).f0)) := (blk_cell BK244.out 0).trans rfl
              have hcz47_1 : wc.cell? ⟨gb244, 1, none⟩ = some (.string ((rd_T64 l0 x12_1).f1)) := (blk_cell BK244.out 1).trans rfl
              have hcz47_2 : wc.cell? ⟨gb244, 2, none⟩ = some (.int .i64 ((rd_T64 l0 x12_1).f2)) := (blk_cell BK244.out 2).trans rfl
              have hcz47_3 : wc.cell? ⟨gb244, 3, none⟩ = some (.int .i64 ((rd_T64 l0 x12_1).f3)) := (blk_cell BK244.out 3).trans rfl
              have hfz47_0 := blk_frozen BK244.out 0
              have hfz47_1 := blk_frozen BK244.out 1
              have hfz47_2 := blk_frozen BK244.out 2
              have hfz47_3 := blk_frozen BK244.out 3
              go_wp2
              repeat (go_quiet (fail); try go_wp2)
              go_ret
              exact ⟨by first | rfl | (simp [errW_none, errW_some] <;> rfl) | (simp [*, errW_none, errW_some] <;> rfl), by repeat (first | (with_reducible first | exact HB.out | apply below_alloc | apply pw_below_drewN | apply below_drew1 | refine below_set ?_ GE244.out) | exact HB.out)⟩
            rw [if_pos c40] at H
            have c40b0 := decide_eq_true c40
            clear c40
            by_cases c41 : ((rd_T64 l0 x12_1).f2) ≤ 400
            rotate_left
            · rw [if_neg c41] at H
              have c41b0 : decide (((rd_T64 l0 x12_1).f2) ≤ 400) = false := decide_eq_false c41
              clear c41
              obtain rfl := Option.some.inj H
              have hcz46_0 : wc.cell? ⟨gb244, 0, none⟩ = some (.string ((rd_T64 l0 x12_1).f0)) := (blk_cell BK244.out 0).trans rfl
              have hcz46_1 : wc.cell? ⟨gb244, 1, none⟩ = some (.string ((rd_T64 l0 x12_1).f1)) := (blk_cell BK244.out 1).trans rfl
              have hcz46_2 : wc.cell? ⟨gb244, 2, none⟩ = some (.int .i64 ((rd_T64 l0 x12_1).f2)) := (blk_cell BK244.out 2).trans rfl
              have hcz46_3 : wc.cell? ⟨gb244, 3, none⟩ = some (.int .i64 ((rd_T64 l0 x12_1).f3)) := (blk_cell BK244.out 3).trans rfl
              have hfz46_0 := blk_frozen BK244.out 0
              have hfz46_1 := blk_frozen BK244.out 1
              have hfz46_2 := blk_frozen BK244.out 2
              have hfz46_3 := blk_frozen BK244.out 3
              go_wp2
              repeat (go_quiet (fail); try go_wp2)
              go_ret
              exact ⟨by first | rfl | (simp [errW_none, errW_some] <;> rfl) | (simp [*, errW_none, errW_some] <;> rfl), by repeat (first | (with_reducible first | exact HB.out | apply below_alloc | apply pw_below_drewN | apply below_drew1 | refine below_set ?_ GE244.out) | exact HB.out)⟩
            rw [if_pos c41] at H
            have c41b0 := decide_eq_true c41
            clear c41
            replace H := Option.bind_eq_some_iff.mp H
            obtain ⟨t248, A420, H⟩ := H
            replace H : (if t248 = true then (sapwoodref04_cells.l0 kj5 l0 (l0.length : Int) (wrap64 (x12_1 + 1))) else (some false)) = some r := H
            have A42 := Aside0.mk A420
            clear A420
            by_cases c43 : t248 = true
            rotate_left
            · replace c43 := Bool.eq_false_iff.mpr c43
              subst c43
              have H1 : (some false) = some r := by rw [if_neg (show ¬ (false = true) by decide)] at H; exact H
              clear H
              have H := H1
              clear H1
              obtain rfl := Option.some.inj H
              have hcz45_0 : wc.cell? ⟨gb244, 0, none⟩ = some (.string ((rd_T64 l0 x12_1).f0)) := (blk_cell BK244.out 0).trans rfl
              have hcz45_1 : wc.cell? ⟨gb244, 1, none⟩ = some (.string ((rd_T64 l0 x12_1).f1)) := (blk_cell BK244.out 1).trans rfl
              have hcz45_2 : wc.cell? ⟨gb244, 2, none⟩ = some (.int .i64 ((rd_T64 l0 x12_1).f2)) := (blk_cell BK244.out 2).trans rfl
              have hcz45_3 : wc.cell? ⟨gb244, 3, none⟩ = some (.int .i64 ((rd_T64 l0 x12_1).f3)) := (blk_cell BK244.out 3).trans rfl
              have hfz45_0 := blk_frozen BK244.out 0
              have hfz45_1 := blk_frozen BK244.out 1
              have hfz45_2 := blk_frozen BK244.out 2
              have hfz45_3 := blk_frozen BK244.out 3
              go_wp2_with (first | (go_at_call 38; (with_reducible refine (sapwoodref04_Number.calls ((rd_T64 l0 x12_1).f3) false _ A42.out).mono ?_); rintro e w' ⟨rfl, ⟨nd, rfl⟩⟩; (try first | exact ⟨rfl, _, World.drewN_drewN _ _ _⟩ | exact ⟨rfl, _, Eq.trans (World.drewN_drewN _ _ _) (congrArg (World.drewN _) (Nat.add_assoc _ _ _))⟩)))
              repeat (go_quiet (first | (go_at_call 38; (with_reducible refine (sapwoodref04_Number.calls ((rd_T64 l0 x12_1).f3) false _ A42.out).mono ?_); rintro e w' ⟨rfl, ⟨nd, rfl⟩⟩; (try first | exact ⟨rfl, _, World.drewN_drewN _ _ _⟩ | exact ⟨rfl, _, Eq.trans (World.drewN_drewN _ _ _) (congrArg (World.drewN _) (Nat.add_assoc _ _ _))⟩))); try go_wp2_with (first | (go_at_call 38; (with_reducible refine (sapwoodref04_Number.calls ((rd_T64 l0 x12_1).f3) false _ A42.out).mono ?_); rintro e w' ⟨rfl, ⟨nd, rfl⟩⟩; (try first | exact ⟨rfl, _, World.drewN_drewN _ _ _⟩ | exact ⟨rfl, _, Eq.trans (World.drewN_drewN _ _ _) (congrArg (World.drewN _) (Nat.add_assoc _ _ _))⟩))))
              go_ret
              exact ⟨by first | rfl | (simp [errW_none, errW_some] <;> rfl) | (simp [*, errW_none, errW_some] <;> rfl), by repeat (first | (with_reducible first | exact HB.out | apply below_alloc | apply pw_below_drewN | apply below_drew1 | refine below_set ?_ GE244.out) | exact HB.out)⟩
            subst c43
            have H1 : (sapwoodref04_cells.l0 kj5 l0 (l0.length : Int) (wrap64 (x12_1 + 1))) = some r := by rw [if_pos rfl] at H; exact H
            clear H
            have H := H1
            clear H1
            have H' := Aside0.mk H
            clear H
            have hcz44_0 : wc.cell? ⟨gb244, 0, none⟩ = some (.string ((rd_T64 l0 x12_1).f0)) := (blk_cell BK244.out 0).trans rfl
            have hcz44_1 : wc.cell? ⟨gb244, 1, none⟩ = some (.string ((rd_T64 l0 x12_1).f1)) := (blk_cell BK244.out 1).trans rfl
            have hcz44_2 : wc.cell? ⟨gb244, 2, none⟩ = some (.int .i64 ((rd_T64 l0 x12_1).f2)) := (blk_cell BK244.out 2).trans rfl
            have hcz44_3 : wc.cell? ⟨gb244, 3, none⟩ = some (.int .i64 ((rd_T64 l0 x12_1).f3)) := (blk_cell BK244.out 3).trans rfl
            have hfz44_0 := blk_frozen BK244.out 0
            have hfz44_1 := blk_frozen BK244.out 1
            have hfz44_2 := blk_frozen BK244.out 2
            have hfz44_3 := blk_frozen BK244.out 3
            go_wp2_with (first | (go_at_call 38; (with_reducible refine (sapwoodref04_Number.calls ((rd_T64 l0 x12_1).f3) true _ A42.out).mono ?_); rintro e w' ⟨rfl, ⟨nd, rfl⟩⟩; (try first | exact ⟨rfl, _, World.drewN_drewN _ _ _⟩ | exact ⟨rfl, _, Eq.trans (World.drewN_drewN _ _ _) (congrArg (World.drewN _) (Nat.add_assoc _ _ _))⟩)))
            repeat (go_quiet (first | (go_at_call 38; (with_reducible refine (sapwoodref04_Number.calls ((rd_T64 l0 x12_1).f3) true _ A42.out).mono ?_); rintro e w' ⟨rfl, ⟨nd, rfl⟩⟩; (try first | exact ⟨rfl, _, World.drewN_drewN _ _ _⟩ | exact ⟨rfl, _, Eq.trans (World.drewN_drewN _ _ _) (congrArg (World.drewN _) (Nat.add_assoc _ _ _))⟩))); try go_wp2_with (first | (go_at_call 38; (with_reducible refine (sapwoodref04_Number.calls ((rd_T64 l0 x12_1).f3) true _ A42.out).mono ?_); rintro e w' ⟨rfl, ⟨nd, rfl⟩⟩; (try first | exact ⟨rfl, _, World.drewN_drewN _ _ _⟩ | exact ⟨rfl, _, Eq.trans (World.drewN_drewN _ _ _) (congrArg (World.drewN _) (Nat.add_assoc _ _ _))⟩))))
            go_roundg kj5
            case measure => have := HK1.out; have := HJ5.out; omega
            case rel => exact ⟨(wrap64 (x12_1 + 1)), (by first | rfl | (simp; done) | (simp [*]; done)), H', ⟨by have := HK1.out; have := HJ5.out; omega⟩, ⟨by repeat (first | (with_reducible first | exact HB.out | apply below_alloc | apply pw_below_drewN | apply below_drew1 | refine below_set ?_ GE244.out) | exact HB.out)⟩⟩
          rw [if_pos c20] at H
          have c20b0 : (((rd_T64 l0 x12_1).f2) == 0) = true := beq_iff_eq.mpr c20
          have c20b1 : (((rd_T64 l0 x12_1).f2) != 0) = false := bne_eq_false_iff_eq.mpr c20
          clear c20
          by_cases c21 : ((rd_T64 l0 x12_1).f1).toList = ([] : List UInt8)
          rotate_left
          · rw [if_neg c21] at H
            have c21b0 : (((rd_T64 l0 x12_1).f1).toList == ([] : List UInt8)) = false := beq_eq_false_iff_ne.mpr c21
            have c21b1 : (((rd_T64 l0 x12_1).f1).toList != ([] : List UInt8)) = true := bne_iff_ne.mpr c21
            by_cases c36 : ((rd_T64 l0 x12_1).f3) = 0
            rotate_left
            · rw [if_neg c36] at H
              have c36b0 : (((rd_T64 l0 x12_1).f3) == 0) = false := beq_eq_false_iff_ne.mpr c36
              have c36b1 : (((rd_T64 l0 x12_1).f3) != 0) = true := bne_iff_ne.mpr c36
              obtain rfl := Option.some.inj H
              have hcz38_0 : wc.cell? ⟨gb244, 0, none⟩ = some (.string ((rd_T64 l0 x12_1).f0)) := (blk_cell BK244.out 0).trans rfl
              have hcz38_1 : wc.cell? ⟨gb244, 1, none⟩ = some (.string ((rd_T64 l0 x12_1).f1)) := (blk_cell BK244.out 1).trans rfl
              have hcz38_2 : wc.cell? ⟨gb244, 2, none⟩ = some (.int .i64 ((rd_T64 l0 x12_1).f2)) := (blk_cell BK244.out 2).trans rfl
              have hcz38_3 : wc.cell? ⟨gb244, 3, none⟩ = some (.int .i64 ((rd_T64 l0 x12_1).f3)) := (blk_cell BK244.out 3).trans rfl
              have hfz38_0 := blk_frozen BK244.out 0
              have hfz38_1 := blk_frozen BK244.out 1
              have hfz38_2 := blk_frozen BK244.out 2
              have hfz38_3 := blk_frozen BK244.out 3
              go_wp2
              repeat (go_quiet (fail); try go_wp2)
              go_ret
              exact ⟨by first | rfl | (simp [errW_none, errW_some] <;> rfl) | (simp [*, errW_none, errW_some] <;> rfl), by repeat (first | (with_reducible first | exact HB.out | apply below_alloc | apply pw_below_drewN | apply below_drew1 | refine below_set ?_ GE244.out) | exact HB.out)⟩
            rw [if_pos c36] at H
            have c36b0 : (((rd_T64 l0 x12_1).f3) == 0) = true := beq_iff_eq.mpr c36
            have c36b1 : (((rd_T64 l0 x12_1).f3) != 0) = false := bne_eq_false_iff_eq.mpr c36
            clear c36
            have H' := Aside0.mk H
            clear H
            have hcz37_0 : wc.cell? ⟨gb244, 0, none⟩ = some (.string ((rd_T64 l0 x12_1).f0)) := (blk_cell BK244.out 0).trans rfl
            have hcz37_1 : wc.cell? ⟨gb244, 1, none⟩ = some (.string ((rd_T64 l0 x12_1).f1)) := (blk_cell BK244.out 1).trans rfl
            have hcz37_2 : wc.cell? ⟨gb244, 2, none⟩ = some (.int .i64 ((rd_T64 l0 x12_1).f2)) := (blk_cell BK244.out 2).trans rfl
            have hcz37_3 : wc.cell? ⟨gb244, 3, none⟩ = some (.int .i64 ((rd_T64 l0 x12_1).f3)) := (blk_cell BK244.out 3).trans rfl
            have hfz37_0 := blk_frozen BK244.out 0
            have hfz37_1 := blk_frozen BK244.out 1
            have hfz37_2 := blk_frozen BK244.out 2
            have hfz37_3 := blk_frozen BK244.out 3
            go_wp2
            repeat (go_quiet (fail); try go_wp2)
            go_roundg kj5
            case measure => have := HK1.out; have := HJ5.out; omega
            case rel => exact ⟨(wrap64 (x12_1 + 1)), (by first | rfl | (simp; done) | (simp [*]; done)), H', ⟨by have := HK1.out; have := HJ5.out; omega⟩, ⟨by repeat (first | (with_reducible first | exact HB.out | apply below_alloc | apply pw_below_drewN | apply below_drew1 | refine below_set ?_ GE244.out) | exact HB.out)⟩⟩
          rw [if_pos c21] at H
          have c21b0 : (((rd_T64 l0 x12_1).f1).toList == ([] : List UInt8)) = true := beq_iff_eq.mpr c21
          have c21b1 : (((rd_T64 l0 x12_1).f1).toList != ([] : List UInt8)) = false := bne_eq_false_iff_eq.mpr c21
          clear c21
          by_cases c22 : ((rd_T64 l0 x12_1).f2) ≥ 25
          rotate_left
          · rw [if_neg c22] at H
            have c22b0 : decide (25 ≤ ((rd_T64 l0 x12_1).f2)) = false := decide_eq_false c22
            clear c22
            by_cases c33 : ((rd_T64 l0 x12_1).f3) = 0
            rotate_left
            · rw [if_neg c33] at H
              have c33b0 : (((rd_T64 l0 x12_1).f3) == 0) = false := beq_eq_false_iff_ne.mpr c33
              have c33b1 : (((rd_T64 l0 x12_1).f3) != 0) = true := bne_iff_ne.mpr c33
              obtain rfl := Option.some.inj H
              have hcz35_0 : wc.cell? ⟨gb244, 0, none⟩ = some (.string ((rd_T64 l0 x12_1).f0)) := (blk_cell BK244.out 0).trans rfl
              have hcz35_1 : wc.cell? ⟨gb244, 1, none⟩ = some (.string ((rd_T64 l0 x12_1).f1)) := (blk_cell BK244.out 1).trans rfl
              have hcz35_2 : wc.cell? ⟨gb244, 2, none⟩ = some (.int .i64 ((rd_T64 l0 x12_1).f2)) := (blk_cell BK244.out 2).trans rfl
              have hcz35_3 : wc.cell? ⟨gb244, 3, none⟩ = some (.int .i64 ((rd_T64 l0 x12_1).f3)) := (blk_cell BK244.out 3).trans rfl
              have hfz35_0 := blk_frozen BK244.out 0
              have hfz35_1 := blk_frozen BK244.out 1
              have hfz35_2 := blk_frozen BK244.out 2
              have hfz35_3 := blk_frozen BK244.out 3
              go_wp2
              repeat (go_quiet (fail); try go_wp2)
              go_ret
              exact ⟨by first | rfl | (simp [errW_none, errW_some] <;> rfl) | (simp [*, errW_none, errW_some] <;> rfl), by repeat (first | (with_reducible first | exact HB.out | apply below_alloc | apply pw_below_drewN | apply below_drew1 | refine below_set ?_ GE244.out) | exact HB.out)⟩
            rw [if_pos c33] at H
            have c33b0 : (((rd_T64 l0 x12_1).f3) == 0) = true := beq_iff_eq.mpr c33
            have c33b1 : (((rd_T64 l0 x12_1).f3) != 0) = false := bne_eq_false_iff_eq.mpr c33
            clear c33
            have H' := Aside0.mk H
            clear H
            have hcz34_0 : wc.cell? ⟨gb244, 0, none⟩ = some (.string ((rd_T64 l0 x12_1).f0)) := (blk_cell BK244.out 0).trans rfl
            have hcz34_1 : wc.cell? ⟨gb244, 1, none⟩ = some (.string ((rd_T64 l0 x12_1).f1)) := (blk_cell BK244.out 1).trans rfl
            have hcz34_2 : wc.cell? ⟨gb244, 2, none⟩ = some (.int .i64 ((rd_T64 l0 x12_1).f2)) := (blk_cell BK244.out 2).trans rfl
            have hcz34_3 : wc.cell? ⟨gb244, 3, none⟩ = some (.int .i64 ((rd_T64 l0 x12_1).f3)) := (blk_cell BK244.out 3).trans rfl
            have hfz34_0 := blk_frozen BK244.out 0
            have hfz34_1 := blk_frozen BK244.out 1
            have hfz34_2 := blk_frozen BK244.out 2
            have hfz34_3 := blk_frozen BK244.out 3
            go_wp2
            repeat (go_quiet (fail); try go_wp2)
            go_roundg kj5
            case measure => have := HK1.out; have := HJ5.out; omega
            case rel => exact ⟨(wrap64 (x12_1 + 1)), (by first | rfl | (simp; done) | (simp [*]; done)), H', ⟨by have := HK1.out; have := HJ5.out; omega⟩, ⟨by repeat (first | (with_reducible first | exact HB.out | apply below_alloc | apply pw_below_drewN | apply below_drew1 | refine below_set ?_ GE244.out) | exact HB.out)⟩⟩
          rw [if_pos c22] at H
          have c22b0 := decide_eq_true c22
          clear c22
          by_cases c23 : ((rd_T64 l0 x12_1).f2) ≤ 400
          rotate_left
          · rw [if_neg c23] at H
            have c23b0 : decide (((rd_T64 l0 x12_1).f2) ≤ 400) = false := decide_eq_false c23
            clear c23
            by_cases c30 : ((rd_T64 l0 x12_1).f3) = 0
            rotate_left
            · rw [if_neg c30] at H
              have c30b0 : (((rd_T64 l0 x12_1).f3) == 0) = false := beq_eq_false_iff_ne.mpr c30
              have c30b1 : (((rd_T64 l0 x12_1).f3) != 0) = true := bne_iff_ne.mpr c30
              obtain rfl := Option.some.inj H
              have hcz32_0 : wc.cell? ⟨gb244, 0, none⟩ = some (.string ((rd_T64 l0 x12_1).f0)) := (blk_cell BK244.out 0).trans rfl
              have hcz32_1 : wc.cell? ⟨gb244, 1, none⟩ = some (.string ((rd_T64 l0 x12_1).f1)) := (blk_cell BK244.out 1).trans rfl
              have hcz32_2 : wc.cell? ⟨gb244, 2, none⟩ = some (.int .i64 ((rd_T64 l0 x12_1).f2)) := (blk_cell BK244.out 2).trans rfl
              have hcz32_3 : wc.cell? ⟨gb244, 3, none⟩ = some (.int .i64 ((rd_T64 l0 x12_1).f3)) := (blk_cell BK244.out 3).trans rfl
              have hfz32_0 := blk_frozen BK244.out 0
              have hfz32_1 := blk_frozen BK244.out 1
              have hfz32_2 := blk_frozen BK244.out 2
              have hfz32_3 := blk_frozen BK244.out 3
              go_wp2
              repeat (go_quiet (fail); try go_wp2)
              go_ret
              exact ⟨by first | rfl | (simp [errW_none, errW_some] <;> rfl) | (simp [*, errW_none, errW_some] <;> rfl), by repeat (first | (with_reducible first | exact HB.out | apply below_alloc | apply pw_below_drewN | apply below_drew1 | refine below_set ?_ GE244.out) | exact HB.out)⟩
            rw [if_pos c30] at H
            have c30b0 : (((rd_T64 l0 x12_1).f3) == 0) = true := beq_iff_eq.mpr c30
            have c30b1 : (((rd_T64 l0 x12_1).f3) != 0) = false := bne_eq_false_iff_eq.mpr c30
            clear c30
            have H' := Aside0.mk H
            clear H
            have hcz31_0 : wc.cell? ⟨gb244, 0, none⟩ = some (.string ((rd_T64 l0 x12_1).f0)) := (blk_cell BK244.out 0).trans rfl
            have hcz31_1 : wc.cell? ⟨gb244, 1, none⟩ = some (.string ((rd_T64 l0 x12_1).f1)) := (blk_cell BK244.out 1).trans rfl
            have hcz31_2 : wc.cell? ⟨gb244, 2, none⟩ = some (.int .i64 ((rd_T64 l0 x12_1).f2)) := (blk_cell BK244.out 2).trans rfl
            have hcz31_3 : wc.cell? ⟨gb244, 3, none⟩ = some (.int .i64 ((rd_T64 l0 x12_1).f3)) := (blk_cell BK244.out 3).trans rfl
            have hfz31_0 := blk_frozen BK244.out 0
            have hfz31_1 := blk_frozen BK244.out 1
            have hfz31_2 := blk_frozen BK244.out 2
            have hfz31_3 := blk_frozen BK244.out 3
            go_wp2
            repeat (go_quiet (fail); try go_wp2)
            go_roundg kj5
            case measure => have := HK1.out; have := HJ5.out; omega
            case rel => exact ⟨(wrap64 (x12_1 + 1)), (by first | rfl | (simp; done) | (simp [*]; done)), H', ⟨by have := HK1.out; have := HJ5.out; omega⟩, ⟨by repeat (first | (with_reducible first | exact HB.out | apply below_alloc | apply pw_below_drewN | apply below_drew1 | refine below_set ?_ GE244.out) | exact HB.out)⟩⟩
          rw [if_pos c23] at H
          have c23b0 := decide_eq_true c23
          clear c23
          replace H := Option.bind_eq_some_iff.mp H
          obtain ⟨t247, A240, H⟩ := H
          replace H : (if ((rd_T64 l0 x12_1).f3) = 0 then (sapwoodref04_cells.l0 kj5 l0 (l0.length : Int) (wrap64 (x12_1 + 1))) else (if t247 = true then (sapwoodref04_cells.l0 kj5 l0 (l0.length : Int) (wrap64 (x12_1 + 1))) else (some false))) = some r := H
          have A24 := Aside0.mk A240
          clear A240
          by_cases c25 : ((rd_T64 l0 x12_1).f3) = 0
          · rw [if_pos c25] at H
            have c25b0 : (((rd_T64 l0 x12_1).f3) == 0) = true := beq_iff_eq.mpr c25
            have c25b1 : (((rd_T64 l0 x12_1).f3) != 0) = false := bne_eq_false_iff_eq.mpr c25
            clear c25
            have H' := Aside0.mk H
            clear H
            have hcz26_0 : wc.cell? ⟨gb244, 0, none⟩ = some (.string ((rd_T64 l0 x12_1).f0)) := (blk_cell BK244.out 0).trans rfl
            have hcz26_1 : wc.cell? ⟨gb244, 1, none⟩ = some (.string ((rd_T64 l0 x12_1).f1)) := (blk_cell BK244.out 1).trans rfl
            have hcz26_2 : wc.cell? ⟨gb244, 2, none⟩ = some (.int .i64 ((rd_T64 l0 x12_1).f2)) := (blk_cell BK244.out 2).trans rfl
            have hcz26_3 : wc.cell? ⟨gb244, 3, none⟩ = some (.int .i64 ((rd_T64 l0 x12_1).f3)) := (blk_cell BK244.out 3).trans rfl
            have hfz26_0 := blk_frozen BK244.out 0
            have hfz26_1 := blk_frozen BK244.out 1
            have hfz26_2 := blk_frozen BK244.out 2
            have hfz26_3 := blk_frozen BK244.out 3
            go_wp2_with (first | (go_at_call 38; (with_reducible refine (sapwoodref04_Number.calls ((rd_T64 l0 x12_1).f3) t247 _ A24.out).mono ?_); rintro e w' ⟨rfl, ⟨nd, rfl⟩⟩; (try first | exact ⟨rfl, _, World.drewN_drewN _ _ _⟩ | exact ⟨rfl, _, Eq.trans (World.drewN_drewN _ _ _) (congrArg (World.drewN _) (Nat.add_assoc _ _ _))⟩)))
            repeat (go_quiet (first | (go_at_call 38; (with_reducible refine (sapwoodref04_Number.calls ((rd_T64 l0 x12_1).f3) t247 _ A24.out).mono ?_); rintro e w' ⟨rfl, ⟨nd, rfl⟩⟩; (try first | exact ⟨rfl, _, World.drewN_drewN _ _ _⟩ | exact ⟨rfl, _, Eq.trans (World.drewN_drewN _ _ _) (congrArg (World.drewN _) (Nat.add_assoc _ _ _))⟩))); try go_wp2_with (first | (go_at_call 38; (with_reducible refine (sapwoodref04_Number.calls ((rd_T64 l0 x12_1).f3) t247 _ A24.out).mono ?_); rintro e w' ⟨rfl, ⟨nd, rfl⟩⟩; (try first | exact ⟨rfl, _, World.drewN_drewN _ _ _⟩ | exact ⟨rfl, _, Eq.trans (World.drewN_drewN _ _ _) (congrArg (World.drewN _) (Nat.add_assoc _ _ _))⟩))))
            go_roundg kj5
            case measure => have := HK1.out; have := HJ5.out; omega
            case rel => exact ⟨(wrap64 (x12_1 + 1)), (by first | rfl | (simp; done) | (simp [*]; done)), H', ⟨by have := HK1.out; have := HJ5.out; omega⟩, ⟨by repeat (first | (with_reducible first | exact HB.out | apply below_alloc | apply pw_below_drewN | apply below_drew1 | refine below_set ?_ GE244.out) | exact HB.out)⟩⟩
          rw [if_neg c25] at H
          have c25b0 : (((rd_T64 l0 x12_1).f3) == 0) = false := beq_eq_false_iff_ne.mpr c25
          have c25b1 : (((rd_T64 l0 x12_1).f3) != 0) = true := bne_iff_ne.mpr c25
          by_cases c27 : t247 = true
          rotate_left
          · replace c27 := Bool.eq_false_iff.mpr c27
            subst c27
            have H1 : (some false) = some r := by rw [if_neg (show ¬ (false = true) by decide)] at H; exact H
            clear H
            have H := H1
            clear H1
            obtain rfl := Option.some.inj H
            have hcz29_0 : wc.cell? ⟨gb244, 0, none⟩ = some (.string ((rd_T64 l0 x12_1).f0)) := (blk_cell BK244.out 0).trans rfl
            have hcz29_1 : wc.cell? ⟨gb244, 1, none⟩ = some (.string ((rd_T64 l0 x12_1).f1)) := (blk_cell BK244.out 1).trans rfl
            have hcz29_2 : wc.cell? ⟨gb244, 2, none⟩ = some (.int .i64 ((rd_T64 l0 x12_1).f2)) := (blk_cell BK244.out 2).trans rfl
            have hcz29_3 : wc.cell? ⟨gb244, 3, none⟩ = some (.int .i64 ((rd_T64 l0 x12_1).f3)) := (blk_cell BK244.out 3).trans rfl
            have hfz29_0 := blk_frozen BK244.out 0
            have hfz29_1 := blk_frozen BK244.out 1
            have hfz29_2 := blk_frozen BK244.out 2
            have hfz29_3 := blk_frozen BK244.out 3
            go_wp2_with (first | (go_at_call 38; (with_reducible refine (sapwoodref04_Number.calls ((rd_T64 l0 x12_1).f3) false _ A24.out).mono ?_); rintro e w' ⟨rfl, ⟨nd, rfl⟩⟩; (try first | exact ⟨rfl, _, World.drewN_drewN _ _ _⟩ | exact ⟨rfl, _, Eq.trans (World.drewN_drewN _ _ _) (congrArg (World.drewN _) (Nat.add_assoc _ _ _))⟩)))
            repeat (go_quiet (first | (go_at_call 38; (with_reducible refine (sapwoodref04_Number.calls ((rd_T64 l0 x12_1).f3) false _ A24.out).mono ?_); rintro e w' ⟨rfl, ⟨nd, rfl⟩⟩; (try first | exact ⟨rfl, _, World.drewN_drewN _ _ _⟩ | exact ⟨rfl, _, Eq.trans (World.drewN_drewN _ _ _) (congrArg (World.drewN _) (Nat.add_assoc _ _ _))⟩))); try go_wp2_with (first | (go_at_call 38; (with_reducible refine (sapwoodref04_Number.calls ((rd_T64 l0 x12_1).f3) false _ A24.out).mono ?_); rintro e w' ⟨rfl, ⟨nd, rfl⟩⟩; (try first | exact ⟨rfl, _, World.drewN_drewN _ _ _⟩ | exact ⟨rfl, _, Eq.trans (World.drewN_drewN _ _ _) (congrArg (World.drewN _) (Nat.add_assoc _ _ _))⟩))))
            go_ret
            exact ⟨by first | rfl | (simp [errW_none, errW_some] <;> rfl) | (simp [*, errW_none, errW_some] <;> rfl), by repeat (first | (with_reducible first | exact HB.out | apply below_alloc | apply pw_below_drewN | apply below_drew1 | refine below_set ?_ GE244.out) | exact HB.out)⟩
          subst c27
          have H1 : (sapwoodref04_cells.l0 kj5 l0 (l0.length : Int) (wrap64 (x12_1 + 1))) = some r := by rw [if_pos rfl] at H; exact H
          clear H
          have H := H1
          clear H1
          have H' := Aside0.mk H
          clear H
          have hcz28_0 : wc.cell? ⟨gb244, 0, none⟩ = some (.string ((rd_T64 l0 x12_1).f0)) := (blk_cell BK244.out 0).trans rfl
          have hcz28_1 : wc.cell? ⟨gb244, 1, none⟩ = some (.string ((rd_T64 l0 x12_1).f1)) := (blk_cell BK244.out 1).trans rfl
          have hcz28_2 : wc.cell? ⟨gb244, 2, none⟩ = some (.int .i64 ((rd_T64 l0 x12_1).f2)) := (blk_cell BK244.out 2).trans rfl
          have hcz28_3 : wc.cell? ⟨gb244, 3, none⟩ = some (.int .i64 ((rd_T64 l0 x12_1).f3)) := (blk_cell BK244.out 3).trans rfl
          have hfz28_0 := blk_frozen BK244.out 0
          have hfz28_1 := blk_frozen BK244.out 1
          have hfz28_2 := blk_frozen BK244.out 2
          have hfz28_3 := blk_frozen BK244.out 3
          go_wp2_with (first | (go_at_call 38; (with_reducible refine (sapwoodref04_Number.calls ((rd_T64 l0 x12_1).f3) true _ A24.out).mono ?_); rintro e w' ⟨rfl, ⟨nd, rfl⟩⟩; (try first | exact ⟨rfl, _, World.drewN_drewN _ _ _⟩ | exact ⟨rfl, _, Eq.trans (World.drewN_drewN _ _ _) (congrArg (World.drewN _) (Nat.add_assoc _ _ _))⟩)))
          repeat (go_quiet (first | (go_at_call 38; (with_reducible refine (sapwoodref04_Number.calls ((rd_T64 l0 x12_1).f3) true _ A24.out).mono ?_); rintro e w' ⟨rfl, ⟨nd, rfl⟩⟩; (try first | exact ⟨rfl, _, World.drewN_drewN _ _ _⟩ | exact ⟨rfl, _, Eq.trans (World.drewN_drewN _ _ _) (congrArg (World.drewN _) (Nat.add_assoc _ _ _))⟩))); try go_wp2_with (first | (go_at_call 38; (with_reducible refine (sapwoodref04_Number.calls ((rd_T64 l0 x12_1).f3) true _ A24.out).mono ?_); rintro e w' ⟨rfl, ⟨nd, rfl⟩⟩; (try first | exact ⟨rfl, _, World.drewN_drewN _ _ _⟩ | exact ⟨rfl, _, Eq.trans (World.drewN_drewN _ _ _) (congrArg (World.drewN _) (Nat.add_assoc _ _ _))⟩))))
          go_roundg kj5
          case measure => have := HK1.out; have := HJ5.out; omega
          case rel => exact ⟨(wrap64 (x12_1 + 1)), (by first | rfl | (simp; done) | (simp [*]; done)), H', ⟨by have := HK1.out; have := HJ5.out; omega⟩, ⟨by repeat (first | (with_reducible first | exact HB.out | apply below_alloc | apply pw_below_drewN | apply below_drew1 | refine below_set ?_ GE244.out) | exact HB.out)⟩⟩
end Go.Proofs.Ytgbcfkcnoncgdaa.Sp
