import Derived.Test.YtgbcfkcnoncgdaaSp0
import Derived.Test.YtgbcfkcnoncgdaaSp11
namespace Go.Proofs.Ytgbcfkcnoncgdaa.Sp
open Go.Proofs.Ytgbcfkcnoncgdaa.Hand
open Go.RowKit Go.Proofs.YtgbcfkcnoncgdaaW.PrintWords Go.Proofs.YtgbcfkcnoncgdaaW.PrintLast Go.Proofs.YtgbcfkcnoncgdaaW.PrintMore
attribute [local go_sem] max2_int min2_int max_two min_two max_three min_three max_four min_four
set_option linter.unusedVariables false
set_option linter.unusedSimpArgs false
mutual
def sapwoodref04_Bytes.j2 : Nat → ByteArray → Option (ByteArray)
  | 0, _ => none
  | k + 1, x3 => sapwoodref04_Bytes.l2 k x3
def sapwoodref04_Bytes.l2 : Nat → ByteArray → Option (ByteArray)
  | 0, _ => none
  | k + 1, x3 => if (x3.size : Int) < 252 then (if x3.size + 1 ≤ 9223372036854775807 then (sapwoodref04_Bytes.l2 k (x3 ++ (⟨#[0]⟩ : ByteArray))) else (none)) else ((sapwoodref02_Seal.f k x3).bind fun t287 => (some t287))
def sapwoodref04_Bytes.l0 : Nat → ByteArray → Int → Int → Int → List (S64) → List (S65) → ByteArray → Int → Option (ByteArray)
  | 0, _, _, _, _, _, _, _, _ => none
  | k + 1, x3, x22, x23, x272000, x272001, x272002, x272003, x272004 => if x23 < x22 then (if 0 ≤ x23 then (if x23 < (x272001.length : Int) then ((sapwoodref01_Text.f k ((rd_T64 x272001 x23).f0)).bind fun t276 => (if x3.size + t276.size ≤ 9223372036854775807 then (if ((rd_T64 x272001 x23).f3) = 0 then (if (x3 ++ t276).size + 1 ≤ 9223372036854775807 then ((sapwoodref01_Text.f k ((rd_T64 x272001 x23).f1)).bind fun t277 => (if ((x3 ++ t276) ++ (⟨#[0]⟩ : ByteArray)).size + t277.size ≤ 9223372036854775807 then (sapwoodref04_Bytes.l0 k (((x3 ++ t276) ++ (⟨#[0]⟩ : ByteArray)) ++ t277) x22 (wrap64 (x23 + 1)) x272000 x272001 x272002 x272003 x272004) else (none))) else (none)) else (if (x3 ++ t276).size + 1 ≤ 9223372036854775807 then ((sapwoodref01_Number.f k ((rd_T64 x272001 x23).f2) 2).bind fun t278 => (if ((x3 ++ t276) ++ (⟨#[1]⟩ : ByteArray)).size + t278.size ≤ 9223372036854775807 then ((sapwoodref01_Number.f k ((rd_T64 x272001 x23).f3) 2).bind fun t279 => (if (((x3 ++ t276) ++ (⟨#[1]⟩ : ByteArray)) ++ t278).size + t279.size ≤ 9223372036854775807 then (sapwoodref04_Bytes.l0 k ((((x3 ++ t276) ++ (⟨#[1]⟩ : ByteArray)) ++ t278) ++ t279) x22 (wrap64 (x23 + 1)) x272000 x272001 x272002 x272003 x272004) else (none))) else (none))) else (none))) else (none))) else (none)) else (none)) else (sapwoodref04_Bytes.j2 k x3)
def sapwoodref04_Bytes.l1 : Nat → ByteArray → Int → Int → Int → List (S64) → List (S65) → ByteArray → Int → Option (ByteArray)
  | 0, _, _, _, _, _, _, _, _ => none
  | k + 1, x3, x66, x67, x272000, x272001, x272002, x272003, x272004 => if x67 < x66 then (if 0 ≤ x67 then (if x67 < (x272002.length : Int) then ((sapwoodref01_Text.f k ((rd_T65 x272002 x67).f0)).bind fun t282 => (if x3.size + t282.size ≤ 9223372036854775807 then ((sapwoodref01_Number.f k ((rd_T65 x272002 x67).f1) 2).bind fun t284 => (if (x3 ++ t282).size + t284.size ≤ 9223372036854775807 then (sapwoodref04_Bytes.l1 k ((x3 ++ t282) ++ t284) x66 (wrap64 (x67 + 1)) x272000 x272001 x272002 x272003 x272004) else (none))) else (none))) else (none)) else (none)) else (sapwoodref04_Bytes.j2 k x3)
end
def sapwoodref04_Bytes.f (k : Nat) (a0_0 : Int) (l0_1 : List (S64)) (l0_2 : List (S65)) (a0_3 : ByteArray) (a0_4 : Int) : Option (ByteArray) := (sapwoodref01_Number.f k a0_0 1).bind fun t272 => (if a0_0 = 1 then ((sapwoodref01_Number.f k (l0_1.length : Int) 1).bind fun t273 => (if t272.size + t273.size ≤ 9223372036854775807 then (sapwoodref04_Bytes.l0 k (t272 ++ t273) (l0_1.length : Int) 0 a0_0 l0_1 l0_2 a0_3 a0_4) else (none))) else (if a0_0 = 2 then ((sapwoodref01_Number.f k (l0_2.length : Int) 1).bind fun t280 => (if t272.size + t280.size ≤ 9223372036854775807 then (sapwoodref04_Bytes.l1 k (t272 ++ t280) (l0_2.length : Int) 0 a0_0 l0_1 l0_2 a0_3 a0_4) else (none))) else (if a0_0 = 3 then ((sapwoodref01_Text.f k a0_3).bind fun t285 => (if t272.size + t285.size ≤ 9223372036854775807 then ((sapwoodref01_Number.f k a0_4 2).bind fun t286 => (if (t272 ++ t285).size + t286.size ≤ 9223372036854775807 then (sapwoodref04_Bytes.j2 k ((t272 ++ t285) ++ t286)) else (none))) else (none))) else (sapwoodref04_Bytes.j2 k t272))))
def sapwoodref04_Bytes.T12 : Bool × List (List Nat × List Nat) := (true, [([], []), ([0], [0]), ([], []), ([2], [2]), ([3], [3]), ([1, 4], [1, 4]), ([], []), ([6], [6]), ([7, 4], [7]), ([5, 8], [5, 8]), ([9, 8, 0, 1, 2, 3, 4, 5, 6, 7, 8, 9], [0, 9])])
def sapwoodref04_Bytes.B12 : List Nat := [0, 1, 0, 4, 12, 31, 0, 64, 220, 511, 1023]
theorem sapwoodref04_Bytes.tab12 : rtab .any (opsOf Try.f35 12) = sapwoodref04_Bytes.T12 := by kernel_rfl
theorem sapwoodref04_Bytes.bits12 : waitsOk sapwoodref04_Bytes.T12.2 sapwoodref04_Bytes.B12 = true := by kernel_rfl
def sapwoodref04_Bytes.T19 : Bool × List (List Nat × List Nat) := (true, [([], []), ([], []), ([1], [1]), ([], []), ([2, 3], [2, 3]), ([4], [4]), ([5], [5]), ([6], [6]), ([0, 7], [0, 7]), ([], []), ([9], [9]), ([], []), ([10, 11], [10, 11]), ([12], [12]), ([13], [13]), ([14, 7], [14]), ([8, 15], [8, 15]), ([16, 15, 0, 1, 2, 3, 4, 5, 6, 7, 8, 9, 10, 11, 12, 13, 14, 15, 16], [0, 16])])
def sapwoodref04_Bytes.B19 : List Nat := [0, 0, 2, 0, 14, 30, 62, 126, 255, 0, 512, 0, 3584, 7680, 15872, 32510, 65535, 131071]
theorem sapwoodref04_Bytes.tab19 : rtab .any (opsOf Try.f35 19) = sapwoodref04_Bytes.T19 := by kernel_rfl
theorem sapwoodref04_Bytes.bits19 : waitsOk sapwoodref04_Bytes.T19.2 sapwoodref04_Bytes.B19 = true := by kernel_rfl
def sapwoodref04_Bytes.T22 : Bool × List (List Nat × List Nat) := (true, [([], []), ([], []), ([1], [1]), ([2], [2]), ([0, 3], [0, 3]), ([], []), ([5], [5]), ([6, 3], [6]), ([4, 7], [4, 7]), ([8, 7, 0, 1, 2, 3, 4, 5, 6, 7, 8], [0, 8])])
def sapwoodref04_Bytes.B22 : List Nat := [0, 0, 2, 6, 15, 0, 32, 110, 255, 511]
theorem sapwoodref04_Bytes.tab22 : rtab .any (opsOf Try.f35 22) = sapwoodref04_Bytes.T22 := by kernel_rfl
theorem sapwoodref04_Bytes.bits22 : waitsOk sapwoodref04_Bytes.T22.2 sapwoodref04_Bytes.B22 = true := by kernel_rfl
set_option maxHeartbeats 8000000 in
set_option maxRecDepth 100000 in
theorem sapwoodref04_Bytes.calls (k : Nat) (a0_0 : Int) (A0_1 : Option Addr) (c0_1 : Nat) (l0_1 : List (S64)) (A0_2 : Option Addr) (c0_2 : Nat) (l0_2 : List (S65)) (a0_3 : ByteArray) (a0_4 : Int) (r : ByteArray) (w : World) (hr0_1 : Kd.C k64 w A0_1 l0_1.length l0_1) (hc0_1 : l0_1.length ≤ c0_1) (hr0_2 : Kd.C k65 w A0_2 l0_2.length l0_2) (hc0_2 : l0_2.length ≤ c0_2) (h : sapwoodref04_Bytes.f k a0_0 l0_1 l0_2 a0_3 a0_4 = some r) :
    Calls Try.prog 35 #[.agg #[.int .i64 a0_0, .slice A0_1 l0_1.length c0_1, .slice A0_2 l0_2.length c0_2, .string a0_3, .int .i64 a0_4]] w fun e w' => e = .returned (.string r) ∧ Below w.heap.size w w' := by
  have hu35 := Try.underlying35
  have hu64 := Try.underlying64
  have HR0_1 := Aside0.mk hr0_1
  have HC0_1 := Aside0.mk hc0_1
  clear hr0_1 hc0_1
  have HR0_2 := Aside0.mk hr0_2
  have HC0_2 := Aside0.mk hc0_2
  clear hr0_2 hc0_2
  have HB := Aside0.mk (Below.refl w.heap.size w)
  have H : ((sapwoodref01_Number.f k a0_0 1).bind fun t272 => (if a0_0 = 1 then ((sapwoodref01_Number.f k (l0_1.length : Int) 1).bind fun t273 => (if t272.size + t273.size ≤ 9223372036854775807 then (sapwoodref04_Bytes.l0 k (t272 ++ t273) (l0_1.length : Int) 0 a0_0 l0_1 l0_2 a0_3 a0_4) else (none))) else (if a0_0 = 2 then ((sapwoodref01_Number.f k (l0_2.length : Int) 1).bind fun t280 => (if t272.size + t280.size ≤ 9223372036854775807 then (sapwoodref04_Bytes.l1 k (t272 ++ t280) (l0_2.length : Int) 0 a0_0 l0_1 l0_2 a0_3 a0_4) else (none))) else (if a0_0 = 3 then ((sapwoodref01_Text.f k a0_3).bind fun t285 => (if t272.size + t285.size ≤ 9223372036854775807 then ((sapwoodref01_Number.f k a0_4 2).bind fun t286 => (if (t272 ++ t285).size + t286.size ≤ 9223372036854775807 then (sapwoodref04_Bytes.j2 k ((t272 ++ t285) ++ t286)) else (none))) else (none))) else (sapwoodref04_Bytes.j2 k t272))))) = some r := h
  clear h
  replace H := Option.bind_eq_some_iff.mp H
  obtain ⟨t272, A20, H⟩ := H
  replace H : (if a0_0 = 1 then ((sapwoodref01_Number.f k (l0_1.length : Int) 1).bind fun t273 => (if t272.size + t273.size ≤ 9223372036854775807 then (sapwoodref04_Bytes.l0 k (t272 ++ t273) (l0_1.length : Int) 0 a0_0 l0_1 l0_2 a0_3 a0_4) else (none))) else (if a0_0 = 2 then ((sapwoodref01_Number.f k (l0_2.length : Int) 1).bind fun t280 => (if t272.size + t280.size ≤ 9223372036854775807 then (sapwoodref04_Bytes.l1 k (t272 ++ t280) (l0_2.length : Int) 0 a0_0 l0_1 l0_2 a0_3 a0_4) else (none))) else (if a0_0 = 3 then ((sapwoodref01_Text.f k a0_3).bind fun t285 => (if t272.size + t285.size ≤ 9223372036854775807 then ((sapwoodref01_Number.f k a0_4 2).bind fun t286 => (if (t272 ++ t285).size + t286.size ≤ 9223372036854775807 then (sapwoodref04_Bytes.j2 k ((t272 ++ t285) ++ t286)) else (none))) else (none))) else (sapwoodref04_Bytes.j2 k t272)))) = some r := H
  have A2 := Aside0.mk A20
  clear A20
  have HC3 := Aside0.mk H
  clear H
  go_enter Try.func35, Try.ntmps35
  go_upto_block 0 with (first | ((with_reducible refine gate_dst (N := 1) rfl ?_); refine box_event ?hg (N := 1) ?hd (cs := #[.int .i64 a0_0, .slice A0_1 l0_1.length c0_1, .slice A0_2 l0_2.length c0_2, .string a0_3, .int .i64 a0_4]) (t := 35) ?hr ?_; (case hd => rfl); (case hg => rfl); (case hr => first | (go_simp; done) | (go_simp; rfl)); intro gb271 hg w4 hbox hb; have n0_ := Aside0.mk (below_step (by repeat (first | (with_reducible first | exact HB.out | apply below_alloc | apply pw_below_drewN | apply below_drew1) | exact HB.out)) hb); have n1_ := Aside0.mk (hbox); have n2_ := Aside0.mk ((by rw [hg]; exact (below_size (by repeat (first | (with_reducible first | exact HB.out | apply below_alloc | apply pw_below_drewN | apply below_drew1) | exact HB.out))) : w.heap.size ≤ gb271)); have n3_ := n2_; clear HB; have HB := n0_; have BK271 := n1_; have GW271 := n2_; have GE271 := n3_; clear n0_ n1_ n2_ n3_; clear hb hbox hg; have hcz5_0 : w4.cell? ⟨gb271, 0, none⟩ = some (.int .i64 a0_0) := (blk_cell BK271.out 0).trans rfl; have hcz5_1 : w4.cell? ⟨gb271, 1, none⟩ = some (.slice A0_1 l0_1.length c0_1) := (blk_cell BK271.out 1).trans rfl; have hcz5_2 : w4.cell? ⟨gb271, 2, none⟩ = some (.slice A0_2 l0_2.length c0_2) := (blk_cell BK271.out 2).trans rfl; have hcz5_3 : w4.cell? ⟨gb271, 3, none⟩ = some (.string a0_3) := (blk_cell BK271.out 3).trans rfl; have hcz5_4 : w4.cell? ⟨gb271, 4, none⟩ = some (.int .i64 a0_4) := (blk_cell BK271.out 4).trans rfl; have hfz5_0 := blk_frozen BK271.out 0; have hfz5_1 := blk_frozen BK271.out 1; have hfz5_2 := blk_frozen BK271.out 2; have hfz5_3 := blk_frozen BK271.out 3; have hfz5_4 := blk_frozen BK271.out 4) | ((with_reducible refine gate_callee (f := 51) rfl ?_); refine goesL_ (some 9) rfl rfl Try.func51 (by kernel_rfl) rfl #[.int .i64 a0_0, .int .i64 1] rfl (by (try simp only [List.map_toArray, List.map_cons, List.map_nil]); first | done | rfl | (simp only [List.length_drop, List.length_take]; rfl)) ?_; (with_reducible refine (sapwoodref01_Number.calls k a0_0 1 t272 _ A2.out).mono ?_); rintro e w6 ⟨rfl, hb⟩; refine ⟨_, rfl, ?_⟩; have n0_ := Aside0.mk (blk_below (g := gb271) (o := .cells #[.int .i64 a0_0, .slice A0_1 l0_1.length c0_1, .slice A0_2 l0_2.length c0_2, .string a0_3, .int .i64 a0_4] 35 (0, 0)) (by (with_reducible repeat (first | refine blk_drewN ?_ _ | refine blk_drew ?_ | refine blk_alloc ?_ _)); exact BK271.out) hb); have n1_ := Aside0.mk (below_step (by repeat (first | (with_reducible first | exact HB.out | apply below_alloc | apply pw_below_drewN | apply below_drew1 | refine below_set ?_ GE271.out) | exact HB.out)) hb); clear BK271; clear HB; have BK271 := n0_; have HB := n1_; clear n0_ n1_; (try clear hb); (try clear hb2); (try clear hk); (try clear hi); have hcz7_0 : w6.cell? ⟨gb271, 0, none⟩ = some (.int .i64 a0_0) := (blk_cell BK271.out 0).trans rfl; have hcz7_1 : w6.cell? ⟨gb271, 1, none⟩ = some (.slice A0_1 l0_1.length c0_1) := (blk_cell BK271.out 1).trans rfl; have hcz7_2 : w6.cell? ⟨gb271, 2, none⟩ = some (.slice A0_2 l0_2.length c0_2) := (blk_cell BK271.out 2).trans rfl; have hcz7_3 : w6.cell? ⟨gb271, 3, none⟩ = some (.string a0_3) := (blk_cell BK271.out 3).trans rfl; have hcz7_4 : w6.cell? ⟨gb271, 4, none⟩ = some (.int .i64 a0_4) := (blk_cell BK271.out 4).trans rfl; have hfz7_0 := blk_frozen BK271.out 0; have hfz7_1 := blk_frozen BK271.out 1; have hfz7_2 := blk_frozen BK271.out 2; have hfz7_3 := blk_frozen BK271.out 3; have hfz7_4 := blk_frozen BK271.out 4))
  (try simp only [Act.put, List.setIfInBounds_toArray, List.set_cons_zero, List.set_cons_succ])
  go_cut [3] (fun v3 wc => ∃ (kq : Nat) (x3_2 : ByteArray), v3 = .string x3_2 ∧ Aside0 (sapwoodref04_Bytes.j2 kq x3_2 = some r) ∧ Aside0 (kq ≤ k) ∧ Aside0 (Below w.heap.size w wc))
  case first =>
    have H := HC3.out
    clear HC3
    by_cases c8 : a0_0 = 1
    rotate_left
    · rw [if_neg c8] at H
      have c8b0 : (a0_0 == 1) = false := beq_eq_false_iff_ne.mpr c8
      have c8b1 : (a0_0 != 1) = true := bne_iff_ne.mpr c8
      (first | rw [c8b0] | (simp only [i64_w, i32_w]; rw [c8b0]) | skip)
      by_cases c44 : a0_0 = 2
      rotate_left
      · rw [if_neg c44] at H
        have c44b0 : (a0_0 == 2) = false := beq_eq_false_iff_ne.mpr c44
        have c44b1 : (a0_0 != 2) = true := bne_iff_ne.mpr c44
        by_cases c60 : a0_0 = 3
        rotate_left
        · rw [if_neg c60] at H
          have c60b0 : (a0_0 == 3) = false := beq_eq_false_iff_ne.mpr c60
          have c60b1 : (a0_0 != 3) = true := bne_iff_ne.mpr c60
          have H' := Aside0.mk H
          clear H
          go_wp2
          go_meet
          case rel => exact ⟨_, (t272), (by first | rfl | (simp; done) | (simp [*]; done)), H', ⟨by first | omega | exact Nat.le_refl _⟩, ⟨by repeat (first | (with_reducible first | exact HB.out | apply below_alloc | apply pw_below_drewN | apply below_drew1 | refine below_set ?_ GE271.out) | exact HB.out)⟩⟩
        rw [if_pos c60] at H
        have c60b0 : (a0_0 == 3) = true := beq_iff_eq.mpr c60
        have c60b1 : (a0_0 != 3) = false := bne_eq_false_iff_eq.mpr c60
        clear c60
        replace H := Option.bind_eq_some_iff.mp H
        obtain ⟨t285, A610, H⟩ := H
        replace H : (if t272.size + t285.size ≤ 9223372036854775807 then ((sapwoodref01_Number.f k a0_4 2).bind fun t286 => (if (t272 ++ t285).size + t286.size ≤ 9223372036854775807 then (sapwoodref04_Bytes.j2 k ((t272 ++ t285) ++ t286)) else (none))) else (none)) = some r := H
        have A61 := Aside0.mk A610
        clear A610
        by_cases c62 : t272.size + t285.size ≤ 9223372036854775807
        rotate_left
        · rw [if_neg c62] at H
          exact absurd H (by simp)
        rw [if_pos c62] at H
        have c62b0 := eq_true c62
        have c62b1 := decide_eq_true c62
        try have c62b2 : (9223372036854775807 < t272.size + t285.size) = False := eq_false (Nat.not_lt.2 c62)
        replace H := Option.bind_eq_some_iff.mp H
        obtain ⟨t286, A630, H⟩ := H
        replace H : (if (t272 ++ t285).size + t286.size ≤ 9223372036854775807 then (sapwoodref04_Bytes.j2 k ((t272 ++ t285) ++ t286)) else (none)) = some r := H
        have A63 := Aside0.mk A630
        clear A630
        by_cases c64 : (t272 ++ t285).size + t286.size ≤ 9223372036854775807
        rotate_left
        · rw [if_neg c64] at H
          exact absurd H (by simp)
        rw [if_pos c64] at H
        have c64b0 := eq_true c64
        have c64b1 := decide_eq_true c64
        try have c64b2 : (9223372036854775807 < (t272 ++ t285).size + t286.size) = False := eq_false (Nat.not_lt.2 c64)
        try have c64b3 := c64b2
        try simp only [ByteArray.size_append, show (⟨#[0]⟩ : ByteArray).size = 1 from rfl, show (⟨#[1]⟩ : ByteArray).size = 1 from rfl] at c64b3
        have H' := Aside0.mk H
        clear H
        try go_wp2
        have n0_ := Aside0.mk (blk_drew BK271.out)
        have n1_ := Aside0.mk (below_drew1 HB.out)
        clear BK271
        clear HB
        have BK271 := n0_
        have HB := n1_
        clear n0_ n1_
        refine start_ (n := 10) (S := fun w' => w'.cell? ⟨gb271, 0, none⟩ = some (.int .i64 a0_0) ∧ w'.cell? ⟨gb271, 1, none⟩ = some (.slice A0_1 l0_1.length c0_1) ∧ w'.cell? ⟨gb271, 2, none⟩ = some (.slice A0_2 l0_2.length c0_2) ∧ w'.cell? ⟨gb271, 3, none⟩ = some (.string a0_3) ∧ w'.cell? ⟨gb271, 4, none⟩ = some (.int .i64 a0_4)) (ds := []) #[false, false, false, false, false, false, false, false, false, false] (by kernel_rfl) rfl rfl ⟨(blk_cell BK271.out 0).trans rfl, (blk_cell BK271.out 1).trans rfl, (blk_cell BK271.out 2).trans rfl, (blk_cell BK271.out 3).trans rfl, (blk_cell BK271.out 4).trans rfl⟩ (fun hHeld => ?_); refine with_tabW sapwoodref04_Bytes.tab22 sapwoodref04_Bytes.bits22 (fun HT_ HW_ => ?_)
        generalize w6.drew = w65 at BK271 HB hHeld ⊢
        refine pure_ (i := 0) (N := some 90) (v := ?_) (a' := ?_) #[true, false, false, false, false, false, false, false, false, false] rfl rfl (any_of HT_.out (by kernel_rfl)) (fun _ _ _ h => h) (Or.inl ⟨by rfl, ?_⟩) ?_ ?_
        rotate_left
        · intro w'
          go_simp
          with_reducible rfl
        rotate_left
        · simp only [Act.put, List.setIfInBounds_toArray, List.set_cons_zero, List.set_cons_succ, i64_w, i32_w]
          rfl
        refine pure_ (i := 1) (N := some 91) (v := ?_) (a' := ?_) #[true, true, false, false, false, false, false, false, false, false] rfl rfl (any_of HT_.out (by kernel_rfl)) (fun _ _ _ h => h) (Or.inl ⟨by rfl, ?_⟩) ?_ ?_
        rotate_left
        · intro w'
          go_simp
          with_reducible rfl
        rotate_left
        · simp only [Act.put, List.setIfInBounds_toArray, List.set_cons_zero, List.set_cons_succ, i64_w, i32_w]
          rfl
        refine pure_ (i := 5) (N := some 95) (v := ?_) (a' := ?_) #[true, true, false, false, false, true, false, false, false, false] rfl rfl (any_of HT_.out (by kernel_rfl)) (fun _ _ _ h => h) (Or.inl ⟨by rfl, ?_⟩) ?_ ?_
        rotate_left
        · intro w'
          go_simp
          with_reducible rfl
        rotate_left
        · simp only [Act.put, List.setIfInBounds_toArray, List.set_cons_zero, List.set_cons_succ, i64_w, i32_w]
          rfl
        refine take_ (i := 2) (N := some 92) (v := ?_) (a' := ?_) #[true, true, true, false, false, true, false, false, false, false] rfl rfl (take_ofW HT_.out HW_.out (by kernel_rfl)) (fun _ _ _ h => h) (Or.inl ⟨by rfl, ?_⟩) hHeld ?_ ?_
        rotate_left
        · rintro w' ⟨s0, s1, s2, s3, s4⟩
          go_simp
          with_reducible rfl
        rotate_left
        · simp only [Act.put, List.setIfInBounds_toArray, List.set_cons_zero, List.set_cons_succ, i64_w, i32_w]
          rfl
        refine take_ (i := 6) (N := some 96) (v := ?_) (a' := ?_) #[true, true, true, false, false, true, true, false, false, false] rfl rfl (take_ofW HT_.out HW_.out (by kernel_rfl)) (fun _ _ _ h => h) (Or.inl ⟨by rfl, ?_⟩) hHeld ?_ ?_
        rotate_left
        · rintro w' ⟨s0, s1, s2, s3, s4⟩
          go_simp
          with_reducible rfl
        rotate_left
        · simp only [Act.put, List.setIfInBounds_toArray, List.set_cons_zero, List.set_cons_succ, i64_w, i32_w]
          rfl
        refine one_ (i := 3) (N := some 93) #[true, true, true, true, false, true, true, false, false, false] rfl rfl (one_of HT_.out (by kernel_rfl)) (by decide) (fun K hK => ?_)
        refine goes_ Try.func52 (by kernel_rfl) rfl #[.string a0_3] (by rfl) rfl rfl (by (try simp only [List.map_toArray, List.map_cons, List.map_nil]); first | done | rfl | (simp only [List.length_drop, List.length_take]; rfl)) ?_
        with_reducible refine (sapwoodref01_Text.calls k a0_3 t285 _ A61.out).mono ?_
        rintro e w66 ⟨rfl, hb⟩
        refine ⟨_, rfl, ?_⟩
        have n0_ := Aside0.mk (blk_below (g := gb271) (o := .cells #[.int .i64 a0_0, .slice A0_1 l0_1.length c0_1, .slice A0_2 l0_2.length c0_2, .string a0_3, .int .i64 a0_4] 35 (0, 0)) (by (with_reducible repeat (first | refine blk_drewN ?_ _ | refine blk_drew ?_ | refine blk_alloc ?_ _)); exact BK271.out) hb)
        have n1_ := Aside0.mk (below_step (by repeat (first | (with_reducible first | exact HB.out | apply below_alloc | apply pw_below_drewN | apply below_drew1 | refine below_set ?_ GE271.out) | exact HB.out)) hb)
        clear BK271
        clear HB
        have BK271 := n0_
        have HB := n1_
        clear n0_ n1_
        (try clear hb)
        (try clear hb2)
        (try clear hk)
        (try clear hi)
        refine hK.out _ _ ⟨(blk_cell BK271.out 0).trans rfl, (blk_cell BK271.out 1).trans rfl, (blk_cell BK271.out 2).trans rfl, (blk_cell BK271.out 3).trans rfl, (blk_cell BK271.out 4).trans rfl⟩ (fun hHeld => ?_)
        clear hK K
        refine norm_ (a' := ?_) ?_ ?_
        rotate_left
        · show Act.put _ (some 93) _ = _
          simp only [Act.put, List.setIfInBounds_toArray, List.set_cons_zero, List.set_cons_succ, i64_w, i32_w]
          rfl
        refine pure_ (i := 4) (N := some 94) (v := ?_) (a' := ?_) #[true, true, true, true, true, true, true, false, false, false] rfl rfl (any_of HT_.out (by kernel_rfl)) (fun _ _ _ h => h) (Or.inl ⟨by rfl, ?_⟩) ?_ ?_
        rotate_left
        · intro w'
          go_simp
          with_reducible rfl
        rotate_left
        · simp only [Act.put, List.setIfInBounds_toArray, List.set_cons_zero, List.set_cons_succ, i64_w, i32_w]
          rfl
        refine one_ (i := 7) (N := some 97) #[true, true, true, true, true, true, true, true, false, false] rfl rfl (one_of HT_.out (by kernel_rfl)) (by decide) (fun K hK => ?_)
        refine goes_ Try.func51 (by kernel_rfl) rfl #[.int .i64 a0_4, .int .i64 2] (by rfl) rfl rfl (by (try simp only [List.map_toArray, List.map_cons, List.map_nil]); first | done | rfl | (simp only [List.length_drop, List.length_take]; rfl)) ?_
        with_reducible refine (sapwoodref01_Number.calls k a0_4 2 t286 _ A63.out).mono ?_
        rintro e w67 ⟨rfl, hb⟩
        refine ⟨_, rfl, ?_⟩
        have n0_ := Aside0.mk (blk_below (g := gb271) (o := .cells #[.int .i64 a0_0, .slice A0_1 l0_1.length c0_1, .slice A0_2 l0_2.length c0_2, .string a0_3, .int .i64 a0_4] 35 (0, 0)) (by (with_reducible repeat (first | refine blk_drewN ?_ _ | refine blk_drew ?_ | refine blk_alloc ?_ _)); exact BK271.out) hb)
        have n1_ := Aside0.mk (below_step (by repeat (first | (with_reducible first | exact HB.out | apply below_alloc | apply pw_below_drewN | apply below_drew1 | refine below_set ?_ GE271.out) | exact HB.out)) hb)
        clear BK271
        clear HB
        have BK271 := n0_
        have HB := n1_
        clear n0_ n1_
        (try clear hb)
        (try clear hb2)
        (try clear hk)
        (try clear hi)
        refine hK.out _ _ ⟨(blk_cell BK271.out 0).trans rfl, (blk_cell BK271.out 1).trans rfl, (blk_cell BK271.out 2).trans rfl, (blk_cell BK271.out 3).trans rfl, (blk_cell BK271.out 4).trans rfl⟩ (fun hHeld => ?_)
        clear hK K
        refine norm_ (a' := ?_) ?_ ?_
        rotate_left
        · show Act.put _ (some 97) _ = _
          simp only [Act.put, List.setIfInBounds_toArray, List.set_cons_zero, List.set_cons_succ, i64_w, i32_w]
          rfl
        refine pure_ (i := 8) (N := some 98) (v := ?_) (a' := ?_) #[true, true, true, true, true, true, true, true, true, false] rfl rfl (any_of HT_.out (by kernel_rfl)) (fun _ _ _ h => h) (Or.inl ⟨by rfl, ?_⟩) ?_ ?_
        rotate_left
        · intro w'
          go_simp
          with_reducible rfl
        rotate_left
        · simp only [Act.put, List.setIfInBounds_toArray, List.set_cons_zero, List.set_cons_succ, i64_w, i32_w]
          rfl
        refine pure_ (i := 9) (N := some 3) (v := ?_) (a' := ?_) #[true, true, true, true, true, true, true, true, true, true] rfl rfl (any_of HT_.out (by kernel_rfl)) (fun _ _ _ h => h) (Or.inl ⟨by rfl, ?_⟩) ?_ ?_
        rotate_left
        · intro w'
          go_simp
          with_reducible rfl
        rotate_left
        · simp only [Act.put, List.setIfInBounds_toArray, List.set_cons_zero, List.set_cons_succ, i64_w, i32_w]
          rfl
        refine done_ (done_of HT_.out (by kernel_rfl)) ?_
        try go_wp2
        go_meet
        case rel => exact ⟨_, ((t272 ++ t285) ++ t286), (by first | rfl | (simp; done) | (simp [*]; done)), H', ⟨by first | omega | exact Nat.le_refl _⟩, ⟨by repeat (first | (with_reducible first | exact HB.out | apply below_alloc | apply pw_below_drewN | apply below_drew1 | refine below_set ?_ GE271.out) | exact HB.out)⟩⟩
      rw [if_pos c44] at H
      have c44b0 : (a0_0 == 2) = true := beq_iff_eq.mpr c44
      have c44b1 : (a0_0 != 2) = false := bne_eq_false_iff_eq.mpr c44
      clear c44
      replace H := Option.bind_eq_some_iff.mp H
      obtain ⟨t280, A450, H⟩ := H
      replace H : (if t272.size + t280.size ≤ 9223372036854775807 then (sapwoodref04_Bytes.l1 k (t272 ++ t280) (l0_2.length : Int) 0 a0_0 l0_1 l0_2 a0_3 a0_4) else (none)) = some r := H
      have A45 := Aside0.mk A450
      clear A450
      by_cases c46 : t272.size + t280.size ≤ 9223372036854775807
      rotate_left
      · rw [if_neg c46] at H
        exact absurd H (by simp)
      rw [if_pos c46] at H
      have c46b0 := eq_true c46
      have c46b1 := decide_eq_true c46
      try have c46b2 : (9223372036854775807 < t272.size + t280.size) = False := eq_false (Nat.not_lt.2 c46)
      have H' := Aside0.mk H
      clear H
      have hcz47_0 : w6.cell? ⟨gb271, 0, none⟩ = some (.int .i64 a0_0) := (blk_cell BK271.out 0).trans rfl
      have hcz47_1 : w6.cell? ⟨gb271, 1, none⟩ = some (.slice A0_1 l0_1.length c0_1) := (blk_cell BK271.out 1).trans rfl
      have hcz47_2 : w6.cell? ⟨gb271, 2, none⟩ = some (.slice A0_2 l0_2.length c0_2) := (blk_cell BK271.out 2).trans rfl
      have hcz47_3 : w6.cell? ⟨gb271, 3, none⟩ = some (.string a0_3) := (blk_cell BK271.out 3).trans rfl
      have hcz47_4 : w6.cell? ⟨gb271, 4, none⟩ = some (.int .i64 a0_4) := (blk_cell BK271.out 4).trans rfl
      have hfz47_0 := blk_frozen BK271.out 0
      have hfz47_1 := blk_frozen BK271.out 1
      have hfz47_2 := blk_frozen BK271.out 2
      have hfz47_3 := blk_frozen BK271.out 3
      have hfz47_4 := blk_frozen BK271.out 4
      go_wp2_with (first | ((with_reducible refine gate_callee (f := 51) rfl ?_); refine goesL_ (some 62) rfl rfl Try.func51 (by kernel_rfl) rfl #[.int .i64 (l0_2.length : Int), .int .i64 1] rfl (by (try simp only [List.map_toArray, List.map_cons, List.map_nil]); first | done | rfl | (simp only [List.length_drop, List.length_take]; rfl)) ?_; (with_reducible refine (sapwoodref01_Number.calls k (l0_2.length : Int) 1 t280 _ A45.out).mono ?_); rintro e w48 ⟨rfl, hb⟩; refine ⟨_, rfl, ?_⟩; have n0_ := Aside0.mk (blk_below (g := gb271) (o := .cells #[.int .i64 a0_0, .slice A0_1 l0_1.length c0_1, .slice A0_2 l0_2.length c0_2, .string a0_3, .int .i64 a0_4] 35 (0, 0)) (by (with_reducible repeat (first | refine blk_drewN ?_ _ | refine blk_drew ?_ | refine blk_alloc ?_ _)); exact BK271.out) hb); have n1_ := Aside0.mk (below_step (by repeat (first | (with_reducible first | exact HB.out | apply below_alloc | apply pw_below_drewN | apply below_drew1 | refine below_set ?_ GE271.out) | exact HB.out)) hb); clear BK271; clear HB; have BK271 := n0_; have HB := n1_; clear n0_ n1_; (try clear hb); (try clear hb2); (try clear hk); (try clear hi); have hcz49_0 : w48.cell? ⟨gb271, 0, none⟩ = some (.int .i64 a0_0) := (blk_cell BK271.out 0).trans rfl; have hcz49_1 : w48.cell? ⟨gb271, 1, none⟩ = some (.slice A0_1 l0_1.length c0_1) := (blk_cell BK271.out 1).trans rfl; have hcz49_2 : w48.cell? ⟨gb271, 2, none⟩ = some (.slice A0_2 l0_2.length c0_2) := (blk_cell BK271.out 2).trans rfl; have hcz49_3 : w48.cell? ⟨gb271, 3, none⟩ = some (.string a0_3) := (blk_cell BK271.out 3).trans rfl; have hcz49_4 : w48.cell? ⟨gb271, 4, none⟩ = some (.int .i64 a0_4) := (blk_cell BK271.out 4).trans rfl; have hfz49_0 := blk_frozen BK271.out 0; have hfz49_1 := blk_frozen BK271.out 1; have hfz49_2 := blk_frozen BK271.out 2; have hfz49_3 := blk_frozen BK271.out 3; have hfz49_4 := blk_frozen BK271.out 4))
      go_loopg [3, 67] k (fun kq v3 v67 w' => ∃ (x3_1 : ByteArray) (x67_1 : Int), v3 = .string x3_1 ∧ v67 = .int .i64 x67_1 ∧ Aside0 (sapwoodref04_Bytes.l1 kq x3_1 (l0_2.length : Int) x67_1 a0_0 l0_1 l0_2 a0_3 a0_4 = some r) ∧ Aside0 (kq ≤ k) ∧ Aside0 (w'.heap[gb271]? = some (.cells #[.int .i64 a0_0, (.slice A0_1 l0_1.length c0_1), (.slice A0_2 l0_2.length c0_2), .string a0_3, .int .i64 a0_4] 35 (0, 0))) ∧ Aside0 (Below w.heap.size w w'))
      case atStart => exact ⟨(t272 ++ t280), (0), (by first | rfl | (simp; done) | (simp [*]; done)), (by first | rfl | (simp; done) | (simp [*]; done)), H', ⟨Nat.le_refl _⟩, ⟨by (with_reducible repeat (first | refine blk_drewN ?_ _ | refine blk_drew ?_ | refine blk_alloc ?_ _)); exact BK271.out⟩, ⟨by repeat (first | (with_reducible first | exact HB.out | apply below_alloc | apply pw_below_drewN | apply below_drew1 | refine below_set ?_ GE271.out) | exact HB.out)⟩⟩
      case round =>
        clear H'
        try clear c1
        try clear c2
        try clear p2
        try clear q2
        try clear hx2
        try clear c3
        try clear c4
        try clear c5
        try clear p6
        try clear c8
        try clear c8b0
        try clear c8b1
        try clear c10
        try clear c10b0
        try clear c10b1
        try clear c10b2
        try clear c14
        try clear c14b0
        try clear c15
        try clear c15b0
        try clear c16
        try clear c16b0
        try clear c18
        try clear c18b0
        try clear c18b1
        try clear c18b2
        try clear c19
        try clear c19b0
        try clear c19b1
        try clear c20
        try clear c20b0
        try clear c20b1
        try clear c20b2
        try clear c22
        try clear c22b0
        try clear c22b1
        try clear c22b2
        try clear c25
        try clear p27
        try clear q27
        try clear hx27
        try clear c30
        try clear c30b0
        try clear c30b1
        try clear c30b2
        try clear c32
        try clear c32b0
        try clear c32b1
        try clear c32b2
        try clear c34
        try clear c34b0
        try clear c34b1
        try clear c34b2
        try clear c35
        try clear c37
        try clear c44
        try clear c44b0
        try clear c44b1
        try clear c46
        try clear c46b0
        try clear c46b1
        try clear c46b2
        try clear hcz11_0
        try clear hcz11_1
        try clear hcz11_2
        try clear hcz11_3
        try clear hcz11_4
        try clear hcz13_0
        try clear hcz13_1
        try clear hcz13_2
        try clear hcz13_3
        try clear hcz13_4
        try clear hcz23_0
        try clear hcz23_1
        try clear hcz23_2
        try clear hcz23_3
        try clear hcz23_4
        try clear hcz26_0
        try clear hcz26_1
        try clear hcz26_2
        try clear hcz26_3
        try clear hcz28_0
        try clear hcz28_1
        try clear hcz28_2
        try clear hcz28_3
        try clear hcz35_0
        try clear hcz35_1
        try clear hcz35_2
        try clear hcz35_3
        try clear hcz35_4
        try clear hcz38_0
        try clear hcz38_1
        try clear hcz38_2
        try clear hcz38_3
        try clear hcz40_0
        try clear hcz40_1
        try clear hcz40_2
        try clear hcz40_3
        try clear hcz47_0
        try clear hcz47_1
        try clear hcz47_2
        try clear hcz47_3
        try clear hcz47_4
        try clear hcz49_0
        try clear hcz49_1
        try clear hcz49_2
        try clear hcz49_3
        try clear hcz49_4
        try clear hcz5_0
        try clear hcz5_1
        try clear hcz5_2
        try clear hcz5_3
        try clear hcz5_4
        try clear hcz7_0
        try clear hcz7_1
        try clear hcz7_2
        try clear hcz7_3
        try clear hcz7_4
        try clear hfz11_0
        try clear hfz11_1
        try clear hfz11_2
        try clear hfz11_3
        try clear hfz11_4
        try clear hfz13_0
        try clear hfz13_1
        try clear hfz13_2
        try clear hfz13_3
        try clear hfz13_4
        try clear hfz23_0
        try clear hfz23_1
        try clear hfz23_2
        try clear hfz23_3
        try clear hfz23_4
        try clear hfz26_0
        try clear hfz26_1
        try clear hfz26_2
        try clear hfz26_3
        try clear hfz28_0
        try clear hfz28_1
        try clear hfz28_2
        try clear hfz28_3
        try clear hfz35_0
        try clear hfz35_1
        try clear hfz35_2
        try clear hfz35_3
        try clear hfz35_4
        try clear hfz38_0
        try clear hfz38_1
        try clear hfz38_2
        try clear hfz38_3
        try clear hfz40_0
        try clear hfz40_1
        try clear hfz40_2
        try clear hfz40_3
        try clear hfz47_0
        try clear hfz47_1
        try clear hfz47_2
        try clear hfz47_3
        try clear hfz47_4
        try clear hfz49_0
        try clear hfz49_1
        try clear hfz49_2
        try clear hfz49_3
        try clear hfz49_4
        try clear hfz5_0
        try clear hfz5_1
        try clear hfz5_2
        try clear hfz5_3
        try clear hfz5_4
        try clear hfz7_0
        try clear hfz7_1
        try clear hfz7_2
        try clear hfz7_3
        try clear hfz7_4
        try clear hx274_0
        try clear hx274_1
        try clear hx274_2
        try clear hx274_3
        try clear p2
        try clear p274
        try clear q274
        obtain ⟨x3_1, x67_1, rfl, rfl, HA, HK1, BK271, HB⟩ := hrel
        cases gk with
        | zero => exact absurd HA.out (by simp [sapwoodref04_Bytes.l1])
        | succ k1 =>
          have H := HA.out
          clear HA
          simp only [sapwoodref04_Bytes.l1] at H
          by_cases c50 : x67_1 < (l0_2.length : Int)
          rotate_left
          · rw [if_neg c50] at H
            have c50b0 : decide (x67_1 < (l0_2.length : Int)) = false := decide_eq_false c50
            clear c50
            have H' := Aside0.mk H
            clear H
            go_wp2
            go_meet
            case rel => exact ⟨_, (x3_1), (by first | rfl | (simp; done) | (simp [*]; done)), H', ⟨by have := HK1.out; first | omega | exact Nat.le_refl _⟩, ⟨by repeat (first | (with_reducible first | exact HB.out | apply below_alloc | apply pw_below_drewN | apply below_drew1 | refine below_set ?_ GE271.out) | exact HB.out)⟩⟩
          rw [if_pos c50] at H
          have c50b0 := decide_eq_true c50
          clear c50
          by_cases c51 : 0 ≤ x67_1
          rotate_left
          · rw [if_neg c51] at H
            exact absurd H (by simp)
          rw [if_pos c51] at H
          have c51b0 := decide_eq_true c51
          clear c51
          by_cases c52 : x67_1 < (l0_2.length : Int)
          rotate_left
          · rw [if_neg c52] at H
            exact absurd H (by simp)
          rw [if_pos c52] at H
          have c52b0 := decide_eq_true c52
          clear c52
          replace H := Option.bind_eq_some_iff.mp H
          obtain ⟨t282, A530, H⟩ := H
          replace H : (if x3_1.size + t282.size ≤ 9223372036854775807 then ((sapwoodref01_Number.f k1 ((rd_T65 l0_2 x67_1).f1) 2).bind fun t284 => (if (x3_1 ++ t282).size + t284.size ≤ 9223372036854775807 then (sapwoodref04_Bytes.l1 k1 ((x3_1 ++ t282) ++ t284) (l0_2.length : Int) (wrap64 (x67_1 + 1)) a0_0 l0_1 l0_2 a0_3 a0_4) else (none))) else (none)) = some r := H
          have A53 := Aside0.mk A530
          clear A530
          by_cases c54 : x3_1.size + t282.size ≤ 9223372036854775807
          rotate_left
          · rw [if_neg c54] at H
            exact absurd H (by simp)
          rw [if_pos c54] at H
          have c54b0 := eq_true c54
          have c54b1 := decide_eq_true c54
          try have c54b2 : (9223372036854775807 < x3_1.size + t282.size) = False := eq_false (Nat.not_lt.2 c54)
          replace H := Option.bind_eq_some_iff.mp H
          obtain ⟨t284, A550, H⟩ := H
          replace H : (if (x3_1 ++ t282).size + t284.size ≤ 9223372036854775807 then (sapwoodref04_Bytes.l1 k1 ((x3_1 ++ t282) ++ t284) (l0_2.length : Int) (wrap64 (x67_1 + 1)) a0_0 l0_1 l0_2 a0_3 a0_4) else (none)) = some r := H
          have A55 := Aside0.mk A550
          clear A550
          by_cases c56 : (x3_1 ++ t282).size + t284.size ≤ 9223372036854775807
          rotate_left
          · rw [if_neg c56] at H
            exact absurd H (by simp)
          rw [if_pos c56] at H
          have c56b0 := eq_true c56
          have c56b1 := decide_eq_true c56
          try have c56b2 : (9223372036854775807 < (x3_1 ++ t282).size + t284.size) = False := eq_false (Nat.not_lt.2 c56)
          try have c56b3 := c56b2
          try simp only [ByteArray.size_append, show (⟨#[0]⟩ : ByteArray).size = 1 from rfl, show (⟨#[1]⟩ : ByteArray).size = 1 from rfl] at c56b3
          have H' := Aside0.mk H
          clear H
          try go_wp2
          have n0_ := Aside0.mk (blk_drew BK271.out)
          have n1_ := Aside0.mk (below_drew1 HB.out)
          clear BK271
          clear HB
          have BK271 := n0_
          have HB := n1_
          clear n0_ n1_
          have p281 : 0 ≤ (x67_1 : Int) := of_decide_eq_true (by first | (with_reducible assumption) | assumption)
          have q281 : x67_1 < (l0_2.length : Int) := of_decide_eq_true (by first | (with_reducible assumption) | assumption)
          obtain ⟨ad281, e281, hx281_0, hx281_1⟩ := at_T65 HR0_2.out x67_1 p281 q281
          have hw281_1 := hx281_1
          have hw281_0 := hx281_0
          cases e281
          replace hx281_0 := (HB.out.cell (World.block_lt_of_cell? w _ hx281_0)).trans hx281_0
          replace hx281_1 := (HB.out.cell (World.block_lt_of_cell? w _ hx281_1)).trans hx281_1
          replace p281 := eq_true p281
          replace q281 := eq_true q281
          have p283 : 0 ≤ (x67_1 : Int) := of_decide_eq_true (by first | (with_reducible assumption) | assumption)
          have q283 : x67_1 < (l0_2.length : Int) := of_decide_eq_true (by first | (with_reducible assumption) | assumption)
          obtain ⟨ad283, e283, hx283_0, hx283_1⟩ := at_T65 HR0_2.out x67_1 p283 q283
          have hw283_1 := hx283_1
          have hw283_0 := hx283_0
          obtain rfl : ad281 = ad283 := (by injection e283)
          replace hx283_0 := (HB.out.cell (World.block_lt_of_cell? w _ hx283_0)).trans hx283_0
          replace hx283_1 := (HB.out.cell (World.block_lt_of_cell? w _ hx283_1)).trans hx283_1
          replace p283 := eq_true p283
          replace q283 := eq_true q283
          refine start_ (n := 18) (S := fun w' => w'.cell? ⟨gb271, 0, none⟩ = some (.int .i64 a0_0) ∧ w'.cell? ⟨gb271, 1, none⟩ = some (.slice A0_1 l0_1.length c0_1) ∧ w'.cell? ⟨gb271, 2, none⟩ = some (.slice (some ad281) l0_2.length c0_2) ∧ w'.cell? ⟨gb271, 3, none⟩ = some (.string a0_3) ∧ w'.cell? ⟨gb271, 4, none⟩ = some (.int .i64 a0_4) ∧ w'.cell? (ad281.add ((x67_1).toNat * 2)) = some (.string ((rd_T65 l0_2 x67_1).f0)) ∧ w'.cell? ⟨(ad281.add ((x67_1).toNat * 2)).block, (ad281.add ((x67_1).toNat * 2)).off + 1, none⟩ = some (.int .i64 ((rd_T65 l0_2 x67_1).f1)) ∧ w'.cell? (ad281.add ((x67_1).toNat * 2)) = some (.string ((rd_T65 l0_2 x67_1).f0)) ∧ w'.cell? ⟨(ad281.add ((x67_1).toNat * 2)).block, (ad281.add ((x67_1).toNat * 2)).off + 1, none⟩ = some (.int .i64 ((rd_T65 l0_2 x67_1).f1))) (ds := []) #[false, false, false, false, false, false, false, false, false, false, false, false, false, false, false, false, false, false] (by kernel_rfl) rfl rfl ⟨(blk_cell BK271.out 0).trans rfl, (blk_cell BK271.out 1).trans rfl, (blk_cell BK271.out 2).trans rfl, (blk_cell BK271.out 3).trans rfl, (blk_cell BK271.out 4).trans rfl, ((HB.out.cell (World.block_lt_of_cell? w _ hw281_0)).trans hw281_0), ((HB.out.cell (World.block_lt_of_cell? w _ hw281_1)).trans hw281_1), ((HB.out.cell (World.block_lt_of_cell? w _ hw283_0)).trans hw283_0), ((HB.out.cell (World.block_lt_of_cell? w _ hw283_1)).trans hw283_1)⟩ (fun hHeld => ?_); refine with_tabW sapwoodref04_Bytes.tab19 sapwoodref04_Bytes.bits19 (fun HT_ HW_ => ?_)
          generalize wr.drew = w57 at BK271 HB hx281_0 hx281_1 hx283_0 hx283_1 hHeld ⊢
          refine pure_ (i := 0) (N := some 70) (v := ?_) (a' := ?_) #[true, false, false, false, false, false, false, false, false, false, false, false, false, false, false, false, false, false] rfl rfl (any_of HT_.out (by kernel_rfl)) (fun _ _ _ h => h) (Or.inl ⟨by rfl, ?_⟩) ?_ ?_
          rotate_left
          · intro w'
            go_simp
            with_reducible rfl
          rotate_left
          · simp only [Act.put, List.setIfInBounds_toArray, List.set_cons_zero, List.set_cons_succ, i64_w, i32_w]
            rfl
          refine pure_ (i := 1) (N := some 71) (v := ?_) (a' := ?_) #[true, true, false, false, false, false, false, false, false, false, false, false, false, false, false, false, false, false] rfl rfl (any_of HT_.out (by kernel_rfl)) (fun _ _ _ h => h) (Or.inl ⟨by rfl, ?_⟩) ?_ ?_
          rotate_left
          · intro w'
            go_simp
            with_reducible rfl
          rotate_left
          · simp only [Act.put, List.setIfInBounds_toArray, List.set_cons_zero, List.set_cons_succ, i64_w, i32_w]
            rfl
          refine pure_ (i := 3) (N := some 73) (v := ?_) (a' := ?_) #[true, true, false, true, false, false, false, false, false, false, false, false, false, false, false, false, false, false] rfl rfl (any_of HT_.out (by kernel_rfl)) (fun _ _ _ h => h) (Or.inl ⟨by rfl, ?_⟩) ?_ ?_
          rotate_left
          · intro w'
            go_simp
            with_reducible rfl
          rotate_left
          · simp only [Act.put, List.setIfInBounds_toArray, List.set_cons_zero, List.set_cons_succ, i64_w, i32_w]
            rfl
          refine pure_ (i := 9) (N := some 79) (v := ?_) (a' := ?_) #[true, true, false, true, false, false, false, false, false, true, false, false, false, false, false, false, false, false] rfl rfl (any_of HT_.out (by kernel_rfl)) (fun _ _ _ h => h) (Or.inl ⟨by rfl, ?_⟩) ?_ ?_
          rotate_left
          · intro w'
            go_simp
            with_reducible rfl
          rotate_left
          · simp only [Act.put, List.setIfInBounds_toArray, List.set_cons_zero, List.set_cons_succ, i64_w, i32_w]
            rfl
          refine pure_ (i := 11) (N := some 81) (v := ?_) (a' := ?_) #[true, true, false, true, false, false, false, false, false, true, false, true, false, false, false, false, false, false] rfl rfl (any_of HT_.out (by kernel_rfl)) (fun _ _ _ h => h) (Or.inl ⟨by rfl, ?_⟩) ?_ ?_
          rotate_left
          · intro w'
            go_simp
            with_reducible rfl
          rotate_left
          · simp only [Act.put, List.setIfInBounds_toArray, List.set_cons_zero, List.set_cons_succ, i64_w, i32_w]
            rfl
          refine take_ (i := 2) (N := some 72) (v := ?_) (a' := ?_) #[true, true, true, true, false, false, false, false, false, true, false, true, false, false, false, false, false, false] rfl rfl (take_ofW HT_.out HW_.out (by kernel_rfl)) (fun _ _ _ h => h) (Or.inl ⟨by rfl, ?_⟩) hHeld ?_ ?_
          rotate_left
          · rintro w' ⟨s0, s1, s2, s3, s4, s5, s6, s7, s8⟩
            go_simp
            with_reducible rfl
          rotate_left
          · simp only [Act.put, List.setIfInBounds_toArray, List.set_cons_zero, List.set_cons_succ, i64_w, i32_w]
            rfl
          refine pure_ (i := 4) (N := some 74) (v := ?_) (a' := ?_) #[true, true, true, true, true, false, false, false, false, true, false, true, false, false, false, false, false, false] rfl rfl (any_of HT_.out (by kernel_rfl)) (fun _ _ _ h => h) (Or.inl ⟨by rfl, ?_⟩) ?_ ?_
          rotate_left
          · intro w'
            go_simp
            with_reducible rfl
          rotate_left
          · simp only [Act.put, List.setIfInBounds_toArray, List.set_cons_zero, List.set_cons_succ, i64_w, i32_w]
            rfl
          refine pure_ (i := 5) (N := some 75) (v := ?_) (a' := ?_) #[true, true, true, true, true, true, false, false, false, true, false, true, false, false, false, false, false, false] rfl rfl (any_of HT_.out (by kernel_rfl)) (fun _ _ _ h => h) (Or.inl ⟨by rfl, ?_⟩) ?_ ?_
          rotate_left
          · intro w'
            go_simp
            with_reducible rfl
          rotate_left
          · simp only [Act.put, List.setIfInBounds_toArray, List.set_cons_zero, List.set_cons_succ, i64_w, i32_w]
            rfl
          refine take_ (i := 6) (N := some 76) (v := ?_) (a' := ?_) #[true, true, true, true, true, true, true, false, false, true, false, true, false, false, false, false, false, false] rfl rfl (take_ofW HT_.out HW_.out (by kernel_rfl)) (fun _ _ _ h => h) (Or.inl ⟨by rfl, ?_⟩) hHeld ?_ ?_
          rotate_left
          · rintro w' ⟨s0, s1, s2, s3, s4, s5, s6, s7, s8⟩
            go_simp
            with_reducible rfl
          rotate_left
          · simp only [Act.put, List.setIfInBounds_toArray, List.set_cons_zero, List.set_cons_succ, i64_w, i32_w]
            rfl
          refine take_ (i := 10) (N := some 80) (v := ?_) (a' := ?_) #[true, true, true, true, true, true, true, false, false, true, true, true, false, false, false, false, false, false] rfl rfl (take_ofW HT_.out HW_.out (by kernel_rfl)) (fun _ _ _ h => h) (Or.inl ⟨by rfl, ?_⟩) hHeld ?_ ?_
          rotate_left
          · rintro w' ⟨s0, s1, s2, s3, s4, s5, s6, s7, s8⟩
            go_simp
            with_reducible rfl
          rotate_left
          · simp only [Act.put, List.setIfInBounds_toArray, List.set_cons_zero, List.set_cons_succ, i64_w, i32_w]
            rfl
          refine pure_ (i := 12) (N := some 82) (v := ?_) (a' := ?_) #[true, true, true, true, true, true, true, false, false, true, true, true, true, false, false, false, false, false] rfl rfl (any_of HT_.out (by kernel_rfl)) (fun _ _ _ h => h) (Or.inl ⟨by rfl, ?_⟩) ?_ ?_
          rotate_left
          · intro w'
            go_simp
            with_reducible rfl
          rotate_left
          · simp only [Act.put, List.setIfInBounds_toArray, List.set_cons_zero, List.set_cons_succ, i64_w, i32_w]
            rfl
          refine pure_ (i := 13) (N := some 83) (v := ?_) (a' := ?_) #[true, true, true, true, true, true, true, false, false, true, true, true, true, true, false, false, false, false] rfl rfl (any_of HT_.out (by kernel_rfl)) (fun _ _ _ h => h) (Or.inl ⟨by rfl, ?_⟩) ?_ ?_
          rotate_left
          · intro w'
            go_simp
            with_reducible rfl
          rotate_left
          · simp only [Act.put, List.setIfInBounds_toArray, List.set_cons_zero, List.set_cons_succ, i64_w, i32_w]
            rfl
          refine take_ (i := 14) (N := some 84) (v := ?_) (a' := ?_) #[true, true, true, true, true, true, true, false, false, true, true, true, true, true, true, false, false, false] rfl rfl (take_ofW HT_.out HW_.out (by kernel_rfl)) (fun _ _ _ h => h) (Or.inl ⟨by rfl, ?_⟩) hHeld ?_ ?_
          rotate_left
          · rintro w' ⟨s0, s1, s2, s3, s4, s5, s6, s7, s8⟩
            go_simp
            with_reducible rfl
          rotate_left
          · simp only [Act.put, List.setIfInBounds_toArray, List.set_cons_zero, List.set_cons_succ, i64_w, i32_w]
            rfl
          refine one_ (i := 7) (N := some 77) #[true, true, true, true, true, true, true, true, false, true, true, true, true, true, true, false, false, false] rfl rfl (one_of HT_.out (by kernel_rfl)) (by decide) (fun K hK => ?_)
          refine goes_ Try.func52 (by kernel_rfl) rfl #[.string ((rd_T65 l0_2 x67_1).f0)] (by rfl) rfl rfl (by (try simp only [List.map_toArray, List.map_cons, List.map_nil]); first | done | rfl | (simp only [List.length_drop, List.length_take]; rfl)) ?_
          with_reducible refine (sapwoodref01_Text.calls k1 ((rd_T65 l0_2 x67_1).f0) t282 _ A53.out).mono ?_
          rintro e w58 ⟨rfl, hb⟩
          refine ⟨_, rfl, ?_⟩
          have n0_ := Aside0.mk (blk_below (g := gb271) (o := .cells #[.int .i64 a0_0, .slice A0_1 l0_1.length c0_1, .slice (some ad281) l0_2.length c0_2, .string a0_3, .int .i64 a0_4] 35 (0, 0)) (by (with_reducible repeat (first | refine blk_drewN ?_ _ | refine blk_drew ?_ | refine blk_alloc ?_ _)); exact BK271.out) hb)
          have n1_ := Aside0.mk (below_step (by repeat (first | (with_reducible first | exact HB.out | apply below_alloc | apply pw_below_drewN | apply below_drew1 | refine below_set ?_ GE271.out) | exact HB.out)) hb)
          clear BK271
          clear HB
          have BK271 := n0_
          have HB := n1_
          clear n0_ n1_
          (try clear hb)
          (try clear hb2)
          (try clear hk)
          (try clear hi)
          refine hK.out _ _ ⟨(blk_cell BK271.out 0).trans rfl, (blk_cell BK271.out 1).trans rfl, (blk_cell BK271.out 2).trans rfl, (blk_cell BK271.out 3).trans rfl, (blk_cell BK271.out 4).trans rfl, ((HB.out.cell (World.block_lt_of_cell? w _ hw281_0)).trans hw281_0), ((HB.out.cell (World.block_lt_of_cell? w _ hw281_1)).trans hw281_1), ((HB.out.cell (World.block_lt_of_cell? w _ hw283_0)).trans hw283_0), ((HB.out.cell (World.block_lt_of_cell? w _ hw283_1)).trans hw283_1)⟩ (fun hHeld => ?_)
          clear hK K
          refine norm_ (a' := ?_) ?_ ?_
          rotate_left
          · show Act.put _ (some 77) _ = _
            simp only [Act.put, List.setIfInBounds_toArray, List.set_cons_zero, List.set_cons_succ, i64_w, i32_w]
            rfl
          refine pure_ (i := 8) (N := some 78) (v := ?_) (a' := ?_) #[true, true, true, true, true, true, true, true, true, true, true, true, true, true, true, false, false, false] rfl rfl (any_of HT_.out (by kernel_rfl)) (fun _ _ _ h => h) (Or.inl ⟨by rfl, ?_⟩) ?_ ?_
          rotate_left
          · intro w'
            go_simp
            with_reducible rfl
          rotate_left
          · simp only [Act.put, List.setIfInBounds_toArray, List.set_cons_zero, List.set_cons_succ, i64_w, i32_w]
            rfl
          refine one_ (i := 15) (N := some 85) #[true, true, true, true, true, true, true, true, true, true, true, true, true, true, true, true, false, false] rfl rfl (one_of HT_.out (by kernel_rfl)) (by decide) (fun K hK => ?_)
          refine goes_ Try.func51 (by kernel_rfl) rfl #[.int .i64 ((rd_T65 l0_2 x67_1).f1), .int .i64 2] (by rfl) rfl rfl (by (try simp only [List.map_toArray, List.map_cons, List.map_nil]); first | done | rfl | (simp only [List.length_drop, List.length_take]; rfl)) ?_
          with_reducible refine (sapwoodref01_Number.calls k1 ((rd_T65 l0_2 x67_1).f1) 2 t284 _ A55.out).mono ?_
          rintro e w59 ⟨rfl, hb⟩
          refine ⟨_, rfl, ?_⟩
          have n0_ := Aside0.mk (blk_below (g := gb271) (o := .cells #[.int .i64 a0_0, .slice A0_1 l0_1.length c0_1, .slice (some ad281) l0_2.length c0_2, .string a0_3, .int .i64 a0_4] 35 (0, 0)) (by (with_reducible repeat (first | refine blk_drewN ?_ _ | refine blk_drew ?_ | refine blk_alloc ?_ _)); exact BK271.out) hb)
          have n1_ := Aside0.mk (below_step (by repeat (first | (with_reducible first | exact HB.out | apply below_alloc | apply pw_below_drewN | apply below_drew1 | refine below_set ?_ GE271.out) | exact HB.out)) hb)
          clear BK271
          clear HB
          have BK271 := n0_
          have HB := n1_
          clear n0_ n1_
          (try clear hb)
          (try clear hb2)
          (try clear hk)
          (try clear hi)
          refine hK.out _ _ ⟨(blk_cell BK271.out 0).trans rfl, (blk_cell BK271.out 1).trans rfl, (blk_cell BK271.out 2).trans rfl, (blk_cell BK271.out 3).trans rfl, (blk_cell BK271.out 4).trans rfl, ((HB.out.cell (World.block_lt_of_cell? w _ hw281_0)).trans hw281_0), ((HB.out.cell (World.block_lt_of_cell? w _ hw281_1)).trans hw281_1), ((HB.out.cell (World.block_lt_of_cell? w _ hw283_0)).trans hw283_0), ((HB.out.cell (World.block_lt_of_cell? w _ hw283_1)).trans hw283_1)⟩ (fun hHeld => ?_)
          clear hK K
          refine norm_ (a' := ?_) ?_ ?_
          rotate_left
          · show Act.put _ (some 85) _ = _
            simp only [Act.put, List.setIfInBounds_toArray, List.set_cons_zero, List.set_cons_succ, i64_w, i32_w]
            rfl
          refine pure_ (i := 16) (N := some 86) (v := ?_) (a' := ?_) #[true, true, true, true, true, true, true, true, true, true, true, true, true, true, true, true, true, false] rfl rfl (any_of HT_.out (by kernel_rfl)) (fun _ _ _ h => h) (Or.inl ⟨by rfl, ?_⟩) ?_ ?_
          rotate_left
          · intro w'
            go_simp
            with_reducible rfl
          rotate_left
          · simp only [Act.put, List.setIfInBounds_toArray, List.set_cons_zero, List.set_cons_succ, i64_w, i32_w]
            rfl
          refine pure_ (i := 17) (N := some 3) (v := ?_) (a' := ?_) #[true, true, true, true, true, true, true, true, true, true, true, true, true, true, true, true, true, true] rfl rfl (any_of HT_.out (by kernel_rfl)) (fun _ _ _ h => h) (Or.inl ⟨by rfl, ?_⟩) ?_ ?_
          rotate_left
          · intro w'
            go_simp
            with_reducible rfl
          rotate_left
          · simp only [Act.put, List.setIfInBounds_toArray, List.set_cons_zero, List.set_cons_succ, i64_w, i32_w]
            rfl
          refine done_ (done_of HT_.out (by kernel_rfl)) ?_
          try go_wp2
          go_roundg k1
          case measure => have := HK1.out; omega
          case rel => exact ⟨((x3_1 ++ t282) ++ t284), (wrap64 (x67_1 + 1)), (by first | rfl | (simp; done) | (simp [*]; done)), (by first | rfl | (simp; done) | (simp [*]; done)), H', ⟨by have := HK1.out; omega⟩, ⟨by (with_reducible repeat (first | refine blk_drewN ?_ _ | refine blk_drew ?_ | refine blk_alloc ?_ _)); exact BK271.out⟩, ⟨by repeat (first | (with_reducible first | exact HB.out | apply below_alloc | apply pw_below_drewN | apply below_drew1 | refine below_set ?_ GE271.out) | exact HB.out)⟩⟩
    rw [if_pos c8] at H
    have c8b0 : (a0_0 == 1) = true := beq_iff_eq.mpr c8
    have c8b1 : (a0_0 != 1) = false := bne_eq_false_iff_eq.mpr c8
    clear c8
    (first | rw [c8b0] | (simp only [i64_w, i32_w]; rw [c8b0]) | skip)
    replace H := Option.bind_eq_some_iff.mp H
    obtain ⟨t273, A90, H⟩ := H
    replace H : (if t272.size + t273.size ≤ 9223372036854775807 then (sapwoodref04_Bytes.l0 k (t272 ++ t273) (l0_1.length : Int) 0 a0_0 l0_1 l0_2 a0_3 a0_4) else (none)) = some r := H
    have A9 := Aside0.mk A90
    clear A90
    by_cases c10 : t272.size + t273.size ≤ 9223372036854775807
    rotate_left
    · rw [if_neg c10] at H
      exact absurd H (by simp)
    rw [if_pos c10] at H
    have c10b0 := eq_true c10
    have c10b1 := decide_eq_true c10
    try have c10b2 : (9223372036854775807 < t272.size + t273.size) = False := eq_false (Nat.not_lt.2 c10)
    have H' := Aside0.mk H
    clear H
    have hcz11_0 : w6.cell? ⟨gb271, 0, none⟩ = some (.int .i64 a0_0) := (blk_cell BK271.out 0).trans rfl
    have hcz11_1 : w6.cell? ⟨gb271, 1, none⟩ = some (.slice A0_1 l0_1.length c0_1) := (blk_cell BK271.out 1).trans rfl
    have hcz11_2 : w6.cell? ⟨gb271, 2, none⟩ = some (.slice A0_2 l0_2.length c0_2) := (blk_cell BK271.out 2).trans rfl
    have hcz11_3 : w6.cell? ⟨gb271, 3, none⟩ = some (.string a0_3) := (blk_cell BK271.out 3).trans rfl
    have hcz11_4 : w6.cell? ⟨gb271, 4, none⟩ = some (.int .i64 a0_4) := (blk_cell BK271.out 4).trans rfl
    have hfz11_0 := blk_frozen BK271.out 0
    have hfz11_1 := blk_frozen BK271.out 1
    have hfz11_2 := blk_frozen BK271.out 2
    have hfz11_3 := blk_frozen BK271.out 3
    have hfz11_4 := blk_frozen BK271.out 4
    go_wp2_with (first | ((with_reducible refine gate_callee (f := 51) rfl ?_); refine goesL_ (some 18) rfl rfl Try.func51 (by kernel_rfl) rfl #[.int .i64 (l0_1.length : Int), .int .i64 1] rfl (by (try simp only [List.map_toArray, List.map_cons, List.map_nil]); first | done | rfl | (simp only [List.length_drop, List.length_take]; rfl)) ?_; (with_reducible refine (sapwoodref01_Number.calls k (l0_1.length : Int) 1 t273 _ A9.out).mono ?_); rintro e w12 ⟨rfl, hb⟩; refine ⟨_, rfl, ?_⟩; have n0_ := Aside0.mk (blk_below (g := gb271) (o := .cells #[.int .i64 a0_0, .slice A0_1 l0_1.length c0_1, .slice A0_2 l0_2.length c0_2, .string a0_3, .int .i64 a0_4] 35 (0, 0)) (by (with_reducible repeat (first | refine blk_drewN ?_ _ | refine blk_drew ?_ | refine blk_alloc ?_ _)); exact BK271.out) hb); have n1_ := Aside0.mk (below_step (by repeat (first | (with_reducible first | exact HB.out | apply below_alloc | apply pw_below_drewN | apply below_drew1 | refine below_set ?_ GE271.out) | exact HB.out)) hb); clear BK271; clear HB; have BK271 := n0_; have HB := n1_; clear n0_ n1_; (try clear hb); (try clear hb2); (try clear hk); (try clear hi); have hcz13_0 : w12.cell? ⟨gb271, 0, none⟩ = some (.int .i64 a0_0) := (blk_cell BK271.out 0).trans rfl; have hcz13_1 : w12.cell? ⟨gb271, 1, none⟩ = some (.slice A0_1 l0_1.length c0_1) := (blk_cell BK271.out 1).trans rfl; have hcz13_2 : w12.cell? ⟨gb271, 2, none⟩ = some (.slice A0_2 l0_2.length c0_2) := (blk_cell BK271.out 2).trans rfl; have hcz13_3 : w12.cell? ⟨gb271, 3, none⟩ = some (.string a0_3) := (blk_cell BK271.out 3).trans rfl; have hcz13_4 : w12.cell? ⟨gb271, 4, none⟩ = some (.int .i64 a0_4) := (blk_cell BK271.out 4).trans rfl; have hfz13_0 := blk_frozen BK271.out 0; have hfz13_1 := blk_frozen BK271.out 1; have hfz13_2 := blk_frozen BK271.out 2; have hfz13_3 := blk_frozen BK271.out 3; have hfz13_4 := blk_frozen BK271.out 4))
    go_loopg [3, 23] k (fun kq v3 v23 w' => ∃ (x3_1 : ByteArray) (x23_1 : Int), v3 = .string x3_1 ∧ v23 = .int .i64 x23_1 ∧ Aside0 (sapwoodref04_Bytes.l0 kq x3_1 (l0_1.length : Int) x23_1 a0_0 l0_1 l0_2 a0_3 a0_4 = some r) ∧ Aside0 (kq ≤ k) ∧ Aside0 (w'.heap[gb271]? = some (.cells #[.int .i64 a0_0, (.slice A0_1 l0_1.length c0_1), (.slice A0_2 l0_2.length c0_2), .string a0_3, .int .i64 a0_4] 35 (0, 0))) ∧ Aside0 (Below w.heap.size w w'))
    case atStart => exact ⟨(t272 ++ t273), (0), (by first | rfl | (simp; done) | (simp [*]; done)), (by first | rfl | (simp; done) | (simp [*]; done)), H', ⟨Nat.le_refl _⟩, ⟨by (with_reducible repeat (first | refine blk_drewN ?_ _ | refine blk_drew ?_ | refine blk_alloc ?_ _)); exact BK271.out⟩, ⟨by repeat (first | (with_reducible first | exact HB.out | apply below_alloc | apply pw_below_drewN | apply below_drew1 | refine below_set ?_ GE271.out) | exact HB.out)⟩⟩
    case round =>
      clear H'
      try clear c1
      try clear p2
      try clear c3
      try clear c5
      try clear c8
      try clear c8b0
      try clear c8b1
      try clear c10
      try clear c10b0
      try clear c10b1
      try clear c10b2
      try clear hcz11_0
      try clear hcz11_1
      try clear hcz11_2
      try clear hcz11_3
      try clear hcz11_4
      try clear hcz13_0
      try clear hcz13_1
      try clear hcz13_2
      try clear hcz13_3
      try clear hcz13_4
      try clear hcz5_0
      try clear hcz5_1
      try clear hcz5_2
      try clear hcz5_3
      try clear hcz5_4
      try clear hcz7_0
      try clear hcz7_1
      try clear hcz7_2
      try clear hcz7_3
      try clear hcz7_4
      try clear hfz11_0
      try clear hfz11_1
      try clear hfz11_2
      try clear hfz11_3
      try clear hfz11_4
      try clear hfz13_0
      try clear hfz13_1
      try clear hfz13_2
      try clear hfz13_3
      try clear hfz13_4
      try clear hfz5_0
      try clear hfz5_1
      try clear hfz5_2
      try clear hfz5_3
      try clear hfz5_4
      try clear hfz7_0
      try clear hfz7_1
      try clear hfz7_2
      try clear hfz7_3
      try clear hfz7_4
      obtain ⟨x3_1, x23_1, rfl, rfl, HA, HK1, BK271, HB⟩ := hrel
      cases gk with
      | zero => exact absurd HA.out (by simp [sapwoodref04_Bytes.l0])
      | succ k1 =>
        have H := HA.out
        clear HA
        simp only [sapwoodref04_Bytes.l0] at H
        by_cases c14 : x23_1 < (l0_1.length : Int)
        rotate_left
        · rw [if_neg c14] at H
          have c14b0 : decide (x23_1 < (l0_1.length : Int)) = false := decide_eq_false c14
          clear c14
          have H' := Aside0.mk H
          clear H
          go_wp2
          go_meet
          case rel => exact ⟨_, (x3_1), (by first | rfl | (simp; done) | (simp [*]; done)), H', ⟨by have := HK1.out; first | omega | exact Nat.le_refl _⟩, ⟨by repeat (first | (with_reducible first | exact HB.out | apply below_alloc | apply pw_below_drewN | apply below_drew1 | refine below_set ?_ GE271.out) | exact HB.out)⟩⟩
        rw [if_pos c14] at H
        have c14b0 := decide_eq_true c14
        clear c14
        by_cases c15 : 0 ≤ x23_1
        rotate_left
        · rw [if_neg c15] at H
          exact absurd H (by simp)
        rw [if_pos c15] at H
        have c15b0 := decide_eq_true c15
        clear c15
        by_cases c16 : x23_1 < (l0_1.length : Int)
        rotate_left
        · rw [if_neg c16] at H
          exact absurd H (by simp)
        rw [if_pos c16] at H
        have c16b0 := decide_eq_true c16
        clear c16
        replace H := Option.bind_eq_some_iff.mp H
        obtain ⟨t276, A170, H⟩ := H
        replace H : (if x3_1.size + t276.size ≤ 9223372036854775807 then (if ((rd_T64 l0_1 x23_1).f3) = 0 then (if (x3_1 ++ t276).size + 1 ≤ 9223372036854775807 then ((sapwoodref01_Text.f k1 ((rd_T64 l0_1 x23_1).f1)).bind fun t277 => (if ((x3_1 ++ t276) ++ (⟨#[0]⟩ : ByteArray)).size + t277.size ≤ 9223372036854775807 then (sapwoodref04_Bytes.l0 k1 (((x3_1 ++ t276) ++ (⟨#[0]⟩ : ByteArray)) ++ t277) (l0_1.length : Int) (wrap64 (x23_1 + 1)) a0_0 l0_1 l0_2 a0_3 a0_4) else (none))) else (none)) else (if (x3_1 ++ t276).size + 1 ≤ 9223372036854775807 then ((sapwoodref01_Number.f k1 ((rd_T64 l0_1 x23_1).f2) 2).bind fun t278 => (if ((x3_1 ++ t276) ++ (⟨#[1]⟩ : ByteArray)).size + t278.size ≤ 9223372036854775807 then ((sapwoodref01_Number.f k1 ((rd_T64 l0_1 x23_1).f3) 2).bind fun t279 => (if (((x3_1 ++ t276) ++ (⟨#[1]⟩ : ByteArray)) ++ t278).size + t279.size ≤ 9223372036854775807 then (sapwoodref04_Bytes.l0 k1 ((((x3_1 ++ t276) ++ (⟨#[1]⟩ : ByteArray)) ++ t278) ++ t279) (l0_1.length : Int) (wrap64 (x23_1 + 1)) a0_0 l0_1 l0_2 a0_3 a0_4) else (none))) else (none))) else (none))) else (none)) = some r := H
        have A17 := Aside0.mk A170
        clear A170
        by_cases c18 : x3_1.size + t276.size ≤ 9223372036854775807
        rotate_left
        · rw [if_neg c18] at H
          exact absurd H (by simp)
        rw [if_pos c18] at H
        have c18b0 := eq_true c18
        have c18b1 := decide_eq_true c18
        try have c18b2 : (9223372036854775807 < x3_1.size + t276.size) = False := eq_false (Nat.not_lt.2 c18)
        by_cases c19 : ((rd_T64 l0_1 x23_1).f3) = 0
        · rw [if_pos c19] at H
          have c19b0 : (((rd_T64 l0_1 x23_1).f3) == 0) = true := beq_iff_eq.mpr c19
          have c19b1 : (((rd_T64 l0_1 x23_1).f3) != 0) = false := bne_eq_false_iff_eq.mpr c19
          clear c19
          by_cases c20 : (x3_1 ++ t276).size + 1 ≤ 9223372036854775807
          rotate_left
          · rw [if_neg c20] at H
            exact absurd H (by simp)
          rw [if_pos c20] at H
          have c20b0 := eq_true c20
          have c20b1 := decide_eq_true c20
          try have c20b2 : (9223372036854775807 < (x3_1 ++ t276).size + 1) = False := eq_false (Nat.not_lt.2 c20)
          try have c20b3 := c20b2
          try simp only [ByteArray.size_append, show (⟨#[0]⟩ : ByteArray).size = 1 from rfl, show (⟨#[1]⟩ : ByteArray).size = 1 from rfl] at c20b3
          replace H := Option.bind_eq_some_iff.mp H
          obtain ⟨t277, A210, H⟩ := H
          replace H : (if ((x3_1 ++ t276) ++ (⟨#[0]⟩ : ByteArray)).size + t277.size ≤ 9223372036854775807 then (sapwoodref04_Bytes.l0 k1 (((x3_1 ++ t276) ++ (⟨#[0]⟩ : ByteArray)) ++ t277) (l0_1.length : Int) (wrap64 (x23_1 + 1)) a0_0 l0_1 l0_2 a0_3 a0_4) else (none)) = some r := H
          have A21 := Aside0.mk A210
          clear A210
          by_cases c22 : ((x3_1 ++ t276) ++ (⟨#[0]⟩ : ByteArray)).size + t277.size ≤ 9223372036854775807
          rotate_left
          · rw [if_neg c22] at H
            exact absurd H (by simp)
          rw [if_pos c22] at H
          have c22b0 := eq_true c22
          have c22b1 := decide_eq_true c22
          try have c22b2 : (9223372036854775807 < ((x3_1 ++ t276) ++ (⟨#[0]⟩ : ByteArray)).size + t277.size) = False := eq_false (Nat.not_lt.2 c22)
          try have c22b3 := c22b2
          try simp only [ByteArray.size_append, show (⟨#[0]⟩ : ByteArray).size = 1 from rfl, show (⟨#[1]⟩ : ByteArray).size = 1 from rfl] at c22b3
          have H' := Aside0.mk H
          clear H
          have hcz23_0 : wr.cell? ⟨gb271, 0, none⟩ = some (.int .i64 a0_0) := (blk_cell BK271.out 0).trans rfl
          have hcz23_1 : wr.cell? ⟨gb271, 1, none⟩ = some (.slice A0_1 l0_1.length c0_1) := (blk_cell BK271.out 1).trans rfl
          have hcz23_2 : wr.cell? ⟨gb271, 2, none⟩ = some (.slice A0_2 l0_2.length c0_2) := (blk_cell BK271.out 2).trans rfl
          have hcz23_3 : wr.cell? ⟨gb271, 3, none⟩ = some (.string a0_3) := (blk_cell BK271.out 3).trans rfl
          have hcz23_4 : wr.cell? ⟨gb271, 4, none⟩ = some (.int .i64 a0_4) := (blk_cell BK271.out 4).trans rfl
          have hfz23_0 := blk_frozen BK271.out 0
          have hfz23_1 := blk_frozen BK271.out 1
          have hfz23_2 := blk_frozen BK271.out 2
          have hfz23_3 := blk_frozen BK271.out 3
          have hfz23_4 := blk_frozen BK271.out 4
          have p274 : 0 ≤ (x23_1 : Int) := of_decide_eq_true (by first | (with_reducible assumption) | assumption)
          have q274 : x23_1 < (l0_1.length : Int) := of_decide_eq_true (by first | (with_reducible assumption) | assumption)
          obtain ⟨ad274, e274, hx274_0, hx274_1, hx274_2, hx274_3⟩ := at_T64 HR0_1.out x23_1 p274 q274
          cases e274
          replace hx274_0 := (HB.out.cell (World.block_lt_of_cell? w _ hx274_0)).trans hx274_0
          replace hx274_1 := (HB.out.cell (World.block_lt_of_cell? w _ hx274_1)).trans hx274_1
          replace hx274_2 := (HB.out.cell (World.block_lt_of_cell? w _ hx274_2)).trans hx274_2
          replace hx274_3 := (HB.out.cell (World.block_lt_of_cell? w _ hx274_3)).trans hx274_3
          replace p274 := eq_true p274
          replace q274 := eq_true q274
          go_wp2_with (first | ((with_reducible refine gate_dst (N := 5) rfl ?_); refine box_event ?hg (N := 5) ?hd (cs := #[.string (⟨#[]⟩ : ByteArray), .string (⟨#[]⟩ : ByteArray), .int .i64 0, .int .i64 0]) (t := 64) ?hr ?_; (case hd => rfl); (case hg => rfl); (case hr => first | (go_simp; done) | (go_simp; rfl)); intro gb275 hg w24 hbox hb; have n0_ := Aside0.mk (blk_below (g := gb271) (o := .cells #[.int .i64 a0_0, .slice (some ad274) l0_1.length c0_1, .slice A0_2 l0_2.length c0_2, .string a0_3, .int .i64 a0_4] 35 (0, 0)) (by (with_reducible repeat (first | refine blk_drewN ?_ _ | refine blk_drew ?_ | refine blk_alloc ?_ _)); exact BK271.out) hb); have n1_ := Aside0.mk (below_step (by repeat (first | (with_reducible first | exact HB.out | apply below_alloc | apply pw_below_drewN | apply below_drew1 | refine below_set ?_ GE271.out) | exact HB.out)) hb); have n2_ := Aside0.mk (hbox); have n3_ := Aside0.mk ((by rw [hg]; exact (below_size (by repeat (first | (with_reducible first | exact HB.out | apply below_alloc | apply pw_below_drewN | apply below_drew1 | refine below_set ?_ GE271.out) | exact HB.out))) : w.heap.size ≤ gb275)); have n4_ := n3_; have n5_ := Aside0.mk ((by rw [hg]; exact Nat.ne_of_lt (blk_lt (g := gb271) (o := .cells #[.int .i64 a0_0, .slice (some ad274) l0_1.length c0_1, .slice A0_2 l0_2.length c0_2, .string a0_3, .int .i64 a0_4] 35 (0, 0)) (by (with_reducible repeat (first | refine blk_drewN ?_ _ | refine blk_drew ?_ | refine blk_alloc ?_ _)); exact BK271.out)) : gb271 ≠ gb275)); have n6_ := Aside0.mk ((by rw [hg]; exact Nat.ne_of_gt (blk_lt (g := gb271) (o := .cells #[.int .i64 a0_0, .slice (some ad274) l0_1.length c0_1, .slice A0_2 l0_2.length c0_2, .string a0_3, .int .i64 a0_4] 35 (0, 0)) (by (with_reducible repeat (first | refine blk_drewN ?_ _ | refine blk_drew ?_ | refine blk_alloc ?_ _)); exact BK271.out)) : gb275 ≠ gb271)); clear BK271; clear HB; have BK271 := n0_; have HB := n1_; have BK275 := n2_; have GW275 := n3_; have GE275 := n4_; have NB271_275 := n5_; have NB275_271 := n6_; clear n0_ n1_ n2_ n3_ n4_ n5_ n6_; clear hb hbox hg; have hnb25 := NB275_271.out; have hnc25 := NB271_275.out; have hcz26_0 : w24.cell? ⟨gb275, 0, none⟩ = some (.string (⟨#[]⟩ : ByteArray)) := (blk_cell BK275.out 0).trans rfl; have hcz26_1 : w24.cell? ⟨gb275, 1, none⟩ = some (.string (⟨#[]⟩ : ByteArray)) := (blk_cell BK275.out 1).trans rfl; have hcz26_2 : w24.cell? ⟨gb275, 2, none⟩ = some (.int .i64 0) := (blk_cell BK275.out 2).trans rfl; have hcz26_3 : w24.cell? ⟨gb275, 3, none⟩ = some (.int .i64 0) := (blk_cell BK275.out 3).trans rfl; have hfz26_0 := blk_frozen BK275.out 0; have hfz26_1 := blk_frozen BK275.out 1; have hfz26_2 := blk_frozen BK275.out 2; have hfz26_3 := blk_frozen BK275.out 3) | ((with_reducible refine gate_callee (f := 52) rfl ?_); refine goesL_ (some 34) rfl rfl Try.func52 (by kernel_rfl) rfl #[.string ((rd_T64 l0_1 x23_1).f0)] rfl (by (try simp only [List.map_toArray, List.map_cons, List.map_nil]); first | done | rfl | (simp only [List.length_drop, List.length_take]; rfl)) ?_; (with_reducible refine (sapwoodref01_Text.calls k1 ((rd_T64 l0_1 x23_1).f0) t276 _ A17.out).mono ?_); rintro e w27 ⟨rfl, hb⟩; refine ⟨_, rfl, ?_⟩; have n0_ := Aside0.mk (blk_below (g := gb271) (o := .cells #[.int .i64 a0_0, .slice (some ad274) l0_1.length c0_1, .slice A0_2 l0_2.length c0_2, .string a0_3, .int .i64 a0_4] 35 (0, 0)) (by (with_reducible repeat (first | refine blk_drewN ?_ _ | refine blk_drew ?_ | refine blk_alloc ?_ _)); refine blk_far ?_ NB271_275.out _; (with_reducible repeat (first | refine blk_drewN ?_ _ | refine blk_drew ?_ | refine blk_alloc ?_ _)); refine blk_far ?_ NB271_275.out _; (with_reducible repeat (first | refine blk_drewN ?_ _ | refine blk_drew ?_ | refine blk_alloc ?_ _)); refine blk_far ?_ NB271_275.out _; (with_reducible repeat (first | refine blk_drewN ?_ _ | refine blk_drew ?_ | refine blk_alloc ?_ _)); refine blk_far ?_ NB271_275.out _; (with_reducible repeat (first | refine blk_drewN ?_ _ | refine blk_drew ?_ | refine blk_alloc ?_ _)); exact BK271.out) hb); have n1_ := Aside0.mk (blk_below (g := gb275) (o := .cells #[.string ((rd_T64 l0_1 x23_1).f0), .string ((rd_T64 l0_1 x23_1).f1), .int .i64 ((rd_T64 l0_1 x23_1).f2), .int .i64 ((rd_T64 l0_1 x23_1).f3)] 64 (0, 0)) (by (with_reducible repeat (first | refine blk_drewN ?_ _ | refine blk_drew ?_ | refine blk_alloc ?_ _)); refine blk_put (cs := #[.string ((rd_T64 l0_1 x23_1).f0), .string ((rd_T64 l0_1 x23_1).f1), .int .i64 ((rd_T64 l0_1 x23_1).f2), .int .i64 0]) ?_ 3 _ rfl; (with_reducible repeat (first | refine blk_drewN ?_ _ | refine blk_drew ?_ | refine blk_alloc ?_ _)); refine blk_put (cs := #[.string ((rd_T64 l0_1 x23_1).f0), .string ((rd_T64 l0_1 x23_1).f1), .int .i64 0, .int .i64 0]) ?_ 2 _ rfl; (with_reducible repeat (first | refine blk_drewN ?_ _ | refine blk_drew ?_ | refine blk_alloc ?_ _)); refine blk_put (cs := #[.string ((rd_T64 l0_1 x23_1).f0), .string (⟨#[]⟩ : ByteArray), .int .i64 0, .int .i64 0]) ?_ 1 _ rfl; (with_reducible repeat (first | refine blk_drewN ?_ _ | refine blk_drew ?_ | refine blk_alloc ?_ _)); refine blk_put (cs := #[.string (⟨#[]⟩ : ByteArray), .string (⟨#[]⟩ : ByteArray), .int .i64 0, .int .i64 0]) ?_ 0 _ rfl; (with_reducible repeat (first | refine blk_drewN ?_ _ | refine blk_drew ?_ | refine blk_alloc ?_ _)); exact BK275.out) hb); have n2_ := Aside0.mk (below_step (by repeat (first | (with_reducible first | exact HB.out | apply below_alloc | apply pw_below_drewN | apply below_drew1 | refine below_set ?_ GE271.out | refine below_set ?_ GE275.out) | exact HB.out)) hb); clear BK271; clear BK275; clear HB; have BK271 := n0_; have BK275 := n1_; have HB := n2_; clear n0_ n1_ n2_; (try clear hb); (try clear hb2); (try clear hk); (try clear hi); have hcz28_0 : w27.cell? ⟨gb275, 0, none⟩ = some (.string ((rd_T64 l0_1 x23_1).f0)) := (blk_cell BK275.out 0).trans rfl; have hcz28_1 : w27.cell? ⟨gb275, 1, none⟩ = some (.string ((rd_T64 l0_1 x23_1).f1)) := (blk_cell BK275.out 1).trans rfl; have hcz28_2 : w27.cell? ⟨gb275, 2, none⟩ = some (.int .i64 ((rd_T64 l0_1 x23_1).f2)) := (blk_cell BK275.out 2).trans rfl; have hcz28_3 : w27.cell? ⟨gb275, 3, none⟩ = some (.int .i64 ((rd_T64 l0_1 x23_1).f3)) := (blk_cell BK275.out 3).trans rfl; have hfz28_0 := blk_frozen BK275.out 0; have hfz28_1 := blk_frozen BK275.out 1; have hfz28_2 := blk_frozen BK275.out 2; have hfz28_3 := blk_frozen BK275.out 3) | ((with_reducible refine gate_callee (f := 52) rfl ?_); refine goesL_ (some 43) rfl rfl Try.func52 (by kernel_rfl) rfl #[.string ((rd_T64 l0_1 x23_1).f1)] rfl (by (try simp only [List.map_toArray, List.map_cons, List.map_nil]); first | done | rfl | (simp only [List.length_drop, List.length_take]; rfl)) ?_; (with_reducible refine (sapwoodref01_Text.calls k1 ((rd_T64 l0_1 x23_1).f1) t277 _ A21.out).mono ?_); rintro e w29 ⟨rfl, hb⟩; refine ⟨_, rfl, ?_⟩; have n0_ := Aside0.mk (blk_below (g := gb271) (o := .cells #[.int .i64 a0_0, .slice (some ad274) l0_1.length c0_1, .slice A0_2 l0_2.length c0_2, .string a0_3, .int .i64 a0_4] 35 (0, 0)) (by (with_reducible repeat (first | refine blk_drewN ?_ _ | refine blk_drew ?_ | refine blk_alloc ?_ _)); exact BK271.out) hb); have n1_ := Aside0.mk (blk_below (g := gb275) (o := .cells #[.string ((rd_T64 l0_1 x23_1).f0), .string ((rd_T64 l0_1 x23_1).f1), .int .i64 ((rd_T64 l0_1 x23_1).f2), .int .i64 ((rd_T64 l0_1 x23_1).f3)] 64 (0, 0)) (by (with_reducible repeat (first | refine blk_drewN ?_ _ | refine blk_drew ?_ | refine blk_alloc ?_ _)); exact BK275.out) hb); have n2_ := Aside0.mk (below_step (by repeat (first | (with_reducible first | exact HB.out | apply below_alloc | apply pw_below_drewN | apply below_drew1 | refine below_set ?_ GE271.out | refine below_set ?_ GE275.out) | exact HB.out)) hb); clear BK271; clear BK275; clear HB; have BK271 := n0_; have BK275 := n1_; have HB := n2_; clear n0_ n1_ n2_; (try clear hb); (try clear hb2); (try clear hk); (try clear hi)))
          go_roundg k1
          case measure => have := HK1.out; omega
          case rel => exact ⟨(((x3_1 ++ t276) ++ (⟨#[0]⟩ : ByteArray)) ++ t277), (wrap64 (x23_1 + 1)), (by first | rfl | (simp; done) | (simp [*]; done)), (by first | rfl | (simp; done) | (simp [*]; done)), H', ⟨by have := HK1.out; omega⟩, ⟨by (with_reducible repeat (first | refine blk_drewN ?_ _ | refine blk_drew ?_ | refine blk_alloc ?_ _)); exact BK271.out⟩, ⟨by repeat (first | (with_reducible first | exact HB.out | apply below_alloc | apply pw_below_drewN | apply below_drew1 | refine below_set ?_ GE271.out | refine below_set ?_ GE275.out) | exact HB.out)⟩⟩
        rw [if_neg c19] at H
        have c19b0 : (((rd_T64 l0_1 x23_1).f3) == 0) = false := beq_eq_false_iff_ne.mpr c19
        have c19b1 : (((rd_T64 l0_1 x23_1).f3) != 0) = true := bne_iff_ne.mpr c19
        by_cases c30 : (x3_1 ++ t276).size + 1 ≤ 9223372036854775807
        rotate_left
        · rw [if_neg c30] at H
          exact absurd H (by simp)
        rw [if_pos c30] at H
        have c30b0 := eq_true c30
        have c30b1 := decide_eq_true c30
        try have c30b2 : (9223372036854775807 < (x3_1 ++ t276).size + 1) = False := eq_false (Nat.not_lt.2 c30)
        try have c30b3 := c30b2
        try simp only [ByteArray.size_append, show (⟨#[0]⟩ : ByteArray).size = 1 from rfl, show (⟨#[1]⟩ : ByteArray).size = 1 from rfl] at c30b3
        replace H := Option.bind_eq_some_iff.mp H
        obtain ⟨t278, A310, H⟩ := H
        replace H : (if ((x3_1 ++ t276) ++ (⟨#[1]⟩ : ByteArray)).size + t278.size ≤ 9223372036854775807 then ((sapwoodref01_Number.f k1 ((rd_T64 l0_1 x23_1).f3) 2).bind fun t279 => (if (((x3_1 ++ t276) ++ (⟨#[1]⟩ : ByteArray)) ++ t278).size + t279.size ≤ 9223372036854775807 then (sapwoodref04_Bytes.l0 k1 ((((x3_1 ++ t276) ++ (⟨#[1]⟩ : ByteArray)) ++ t278) ++ t279) (l0_1.length : Int) (wrap64 (x23_1 + 1)) a0_0 l0_1 l0_2 a0_3 a0_4) else (none))) else (none)) = some r := H
        have A31 := Aside0.mk A310
        clear A310
        by_cases c32 : ((x3_1 ++ t276) ++ (⟨#[1]⟩ : ByteArray)).size + t278.size ≤ 9223372036854775807
        rotate_left
        · rw [if_neg c32] at H
          exact absurd H (by simp)
        rw [if_pos c32] at H
        have c32b0 := eq_true c32
        have c32b1 := decide_eq_true c32
        try have c32b2 : (9223372036854775807 < ((x3_1 ++ t276) ++ (⟨#[1]⟩ : ByteArray)).size + t278.size) = False := eq_false (Nat.not_lt.2 c32)
        try have c32b3 := c32b2
        try simp only [ByteArray.size_append, show (⟨#[0]⟩ : ByteArray).size = 1 from rfl, show (⟨#[1]⟩ : ByteArray).size = 1 from rfl] at c32b3
        replace H := Option.bind_eq_some_iff.mp H
        obtain ⟨t279, A330, H⟩ := H
        replace H : (if (((x3_1 ++ t276) ++ (⟨#[1]⟩ : ByteArray)) ++ t278).size + t279.size ≤ 9223372036854775807 then (sapwoodref04_Bytes.l0 k1 ((((x3_1 ++ t276) ++ (⟨#[1]⟩ : ByteArray)) ++ t278) ++ t279) (l0_1.length : Int) (wrap64 (x23_1 + 1)) a0_0 l0_1 l0_2 a0_3 a0_4) else (none)) = some r := H
        have A33 := Aside0.mk A330
        clear A330
        by_cases c34 : (((x3_1 ++ t276) ++ (⟨#[1]⟩ : ByteArray)) ++ t278).size + t279.size ≤ 9223372036854775807
        rotate_left
        · rw [if_neg c34] at H
          exact absurd H (by simp)
        rw [if_pos c34] at H
        have c34b0 := eq_true c34
        have c34b1 := decide_eq_true c34
        try have c34b2 : (9223372036854775807 < (((x3_1 ++ t276) ++ (⟨#[1]⟩ : ByteArray)) ++ t278).size + t279.size) = False := eq_false (Nat.not_lt.2 c34)
        try have c34b3 := c34b2
        try simp only [ByteArray.size_append, show (⟨#[0]⟩ : ByteArray).size = 1 from rfl, show (⟨#[1]⟩ : ByteArray).size = 1 from rfl] at c34b3
        have H' := Aside0.mk H
        clear H
        have hcz35_0 : wr.cell? ⟨gb271, 0, none⟩ = some (.int .i64 a0_0) := (blk_cell BK271.out 0).trans rfl
        have hcz35_1 : wr.cell? ⟨gb271, 1, none⟩ = some (.slice A0_1 l0_1.length c0_1) := (blk_cell BK271.out 1).trans rfl
        have hcz35_2 : wr.cell? ⟨gb271, 2, none⟩ = some (.slice A0_2 l0_2.length c0_2) := (blk_cell BK271.out 2).trans rfl
        have hcz35_3 : wr.cell? ⟨gb271, 3, none⟩ = some (.string a0_3) := (blk_cell BK271.out 3).trans rfl
        have hcz35_4 : wr.cell? ⟨gb271, 4, none⟩ = some (.int .i64 a0_4) := (blk_cell BK271.out 4).trans rfl
        have hfz35_0 := blk_frozen BK271.out 0
        have hfz35_1 := blk_frozen BK271.out 1
        have hfz35_2 := blk_frozen BK271.out 2
        have hfz35_3 := blk_frozen BK271.out 3
        have hfz35_4 := blk_frozen BK271.out 4
        have p274 : 0 ≤ (x23_1 : Int) := of_decide_eq_true (by first | (with_reducible assumption) | assumption)
        have q274 : x23_1 < (l0_1.length : Int) := of_decide_eq_true (by first | (with_reducible assumption) | assumption)
        obtain ⟨ad274, e274, hx274_0, hx274_1, hx274_2, hx274_3⟩ := at_T64 HR0_1.out x23_1 p274 q274
        cases e274
        replace hx274_0 := (HB.out.cell (World.block_lt_of_cell? w _ hx274_0)).trans hx274_0
        replace hx274_1 := (HB.out.cell (World.block_lt_of_cell? w _ hx274_1)).trans hx274_1
        replace hx274_2 := (HB.out.cell (World.block_lt_of_cell? w _ hx274_2)).trans hx274_2
        replace hx274_3 := (HB.out.cell (World.block_lt_of_cell? w _ hx274_3)).trans hx274_3
        replace p274 := eq_true p274
        replace q274 := eq_true q274
        try go_wp2_with (first | ((with_reducible refine gate_dst (N := 5) rfl ?_); refine box_event ?hg (N := 5) ?hd (cs := #[.string (⟨#[]⟩ : ByteArray), .string (⟨#[]⟩ : ByteArray), .int .i64 0, .int .i64 0]) (t := 64) ?hr ?_; (case hd => rfl); (case hg => rfl); (case hr => first | (go_simp; done) | (go_simp; rfl)); intro gb275 hg w36 hbox hb; have n0_ := Aside0.mk (blk_below (g := gb271) (o := .cells #[.int .i64 a0_0, .slice (some ad274) l0_1.length c0_1, .slice A0_2 l0_2.length c0_2, .string a0_3, .int .i64 a0_4] 35 (0, 0)) (by (with_reducible repeat (first | refine blk_drewN ?_ _ | refine blk_drew ?_ | refine blk_alloc ?_ _)); exact BK271.out) hb); have n1_ := Aside0.mk (below_step (by repeat (first | (with_reducible first | exact HB.out | apply below_alloc | apply pw_below_drewN | apply below_drew1 | refine below_set ?_ GE271.out) | exact HB.out)) hb); have n2_ := Aside0.mk (hbox); have n3_ := Aside0.mk ((by rw [hg]; exact (below_size (by repeat (first | (with_reducible first | exact HB.out | apply below_alloc | apply pw_below_drewN | apply below_drew1 | refine below_set ?_ GE271.out) | exact HB.out))) : w.heap.size ≤ gb275)); have n4_ := n3_; have n5_ := Aside0.mk ((by rw [hg]; exact Nat.ne_of_lt (blk_lt (g := gb271) (o := .cells #[.int .i64 a0_0, .slice (some ad274) l0_1.length c0_1, .slice A0_2 l0_2.length c0_2, .string a0_3, .int .i64 a0_4] 35 (0, 0)) (by (with_reducible repeat (first | refine blk_drewN ?_ _ | refine blk_drew ?_ | refine blk_alloc ?_ _)); exact BK271.out)) : gb271 ≠ gb275)); have n6_ := Aside0.mk ((by rw [hg]; exact Nat.ne_of_gt (blk_lt (g := gb271) (o := .cells #[.int .i64 a0_0, .slice (some ad274) l0_1.length c0_1, .slice A0_2 l0_2.length c0_2, .string a0_3, .int .i64 a0_4] 35 (0, 0)) (by (with_reducible repeat (first | refine blk_drewN ?_ _ | refine blk_drew ?_ | refine blk_alloc ?_ _)); exact BK271.out)) : gb275 ≠ gb271)); clear BK271; clear HB; have BK271 := n0_; have HB := n1_; have BK275 := n2_; have GW275 := n3_; have GE275 := n4_; have NB271_275 := n5_; have NB275_271 := n6_; clear n0_ n1_ n2_ n3_ n4_ n5_ n6_; clear hb hbox hg; have hnb37 := NB275_271.out; have hnc37 := NB271_275.out; have hcz38_0 : w36.cell? ⟨gb275, 0, none⟩ = some (.string (⟨#[]⟩ : ByteArray)) := (blk_cell BK275.out 0).trans rfl; have hcz38_1 : w36.cell? ⟨gb275, 1, none⟩ = some (.string (⟨#[]⟩ : ByteArray)) := (blk_cell BK275.out 1).trans rfl; have hcz38_2 : w36.cell? ⟨gb275, 2, none⟩ = some (.int .i64 0) := (blk_cell BK275.out 2).trans rfl; have hcz38_3 : w36.cell? ⟨gb275, 3, none⟩ = some (.int .i64 0) := (blk_cell BK275.out 3).trans rfl; have hfz38_0 := blk_frozen BK275.out 0; have hfz38_1 := blk_frozen BK275.out 1; have hfz38_2 := blk_frozen BK275.out 2; have hfz38_3 := blk_frozen BK275.out 3) | ((with_reducible refine gate_callee (f := 52) rfl ?_); refine goesL_ (some 34) rfl rfl Try.func52 (by kernel_rfl) rfl #[.string ((rd_T64 l0_1 x23_1).f0)] rfl (by (try simp only [List.map_toArray, List.map_cons, List.map_nil]); first | done | rfl | (simp only [List.length_drop, List.length_take]; rfl)) ?_; (with_reducible refine (sapwoodref01_Text.calls k1 ((rd_T64 l0_1 x23_1).f0) t276 _ A17.out).mono ?_); rintro e w39 ⟨rfl, hb⟩; refine ⟨_, rfl, ?_⟩; have n0_ := Aside0.mk (blk_below (g := gb271) (o := .cells #[.int .i64 a0_0, .slice (some ad274) l0_1.length c0_1, .slice A0_2 l0_2.length c0_2, .string a0_3, .int .i64 a0_4] 35 (0, 0)) (by (with_reducible repeat (first | refine blk_drewN ?_ _ | refine blk_drew ?_ | refine blk_alloc ?_ _)); refine blk_far ?_ NB271_275.out _; (with_reducible repeat (first | refine blk_drewN ?_ _ | refine blk_drew ?_ | refine blk_alloc ?_ _)); refine blk_far ?_ NB271_275.out _; (with_reducible repeat (first | refine blk_drewN ?_ _ | refine blk_drew ?_ | refine blk_alloc ?_ _)); refine blk_far ?_ NB271_275.out _; (with_reducible repeat (first | refine blk_drewN ?_ _ | refine blk_drew ?_ | refine blk_alloc ?_ _)); refine blk_far ?_ NB271_275.out _; (with_reducible repeat (first | refine blk_drewN ?_ _ | refine blk_drew ?_ | refine blk_alloc ?_ _)); exact BK271.out) hb); have n1_ := Aside0.mk (blk_below (g := gb275) (o := .cells #[.string ((rd_T64 l0_1 x23_1).f0), .string ((rd_T64 l0_1 x23_1).f1), .int .i64 ((rd_T64 l0_1 x23_1).f2), .int .i64 ((rd_T64 l0_1 x23_1).f3)] 64 (0, 0)) (by (with_reducible repeat (first | refine blk_drewN ?_ _ | refine blk_drew ?_ | refine blk_alloc ?_ _)); refine blk_put (cs := #[.string ((rd_T64 l0_1 x23_1).f0), .string ((rd_T64 l0_1 x23_1).f1), .int .i64 ((rd_T64 l0_1 x23_1).f2), .int .i64 0]) ?_ 3 _ rfl; (with_reducible repeat (first | refine blk_drewN ?_ _ | refine blk_drew ?_ | refine blk_alloc ?_ _)); refine blk_put (cs := #[.string ((rd_T64 l0_1 x23_1).f0), .string ((rd_T64 l0_1 x23_1).f1), .int .i64 0, .int .i64 0]) ?_ 2 _ rfl; (with_reducible repeat (first | refine blk_drewN ?_ _ | refine blk_drew ?_ | refine blk_alloc ?_ _)); refine blk_put (cs := #[.string ((rd_T64 l0_1 x23_1).f0), .string (⟨#[]⟩ : ByteArray), .int .i64 0, .int .i64 0]) ?_ 1 _ rfl; (with_reducible repeat (first | refine blk_drewN ?_ _ | refine blk_drew ?_ | refine blk_alloc ?_ _)); refine blk_put (cs := #[.string (⟨#[]⟩ : ByteArray), .string (⟨#[]⟩ : ByteArray), .int .i64 0, .int .i64 0]) ?_ 0 _ rfl; (with_reducible repeat (first | refine blk_drewN ?_ _ | refine blk_drew ?_ | refine blk_alloc ?_ _)); exact BK275.out) hb); have n2_ := Aside0.mk (below_step (by repeat (first | (with_reducible first | exact HB.out | apply below_alloc | apply pw_below_drewN | apply below_drew1 | refine below_set ?_ GE271.out | refine below_set ?_ GE275.out) | exact HB.out)) hb); clear BK271; clear BK275; clear HB; have BK271 := n0_; have BK275 := n1_; have HB := n2_; clear n0_ n1_ n2_; (try clear hb); (try clear hb2); (try clear hk); (try clear hi); have hcz40_0 : w39.cell? ⟨gb275, 0, none⟩ = some (.string ((rd_T64 l0_1 x23_1).f0)) := (blk_cell BK275.out 0).trans rfl; have hcz40_1 : w39.cell? ⟨gb275, 1, none⟩ = some (.string ((rd_T64 l0_1 x23_1).f1)) := (blk_cell BK275.out 1).trans rfl; have hcz40_2 : w39.cell? ⟨gb275, 2, none⟩ = some (.int .i64 ((rd_T64 l0_1 x23_1).f2)) := (blk_cell BK275.out 2).trans rfl; have hcz40_3 : w39.cell? ⟨gb275, 3, none⟩ = some (.int .i64 ((rd_T64 l0_1 x23_1).f3)) := (blk_cell BK275.out 3).trans rfl; have hfz40_0 := blk_frozen BK275.out 0; have hfz40_1 := blk_frozen BK275.out 1; have hfz40_2 := blk_frozen BK275.out 2; have hfz40_3 := blk_frozen BK275.out 3))
        have n0_ := Aside0.mk (blk_drew BK271.out)
        have n1_ := Aside0.mk (blk_drew BK275.out)
        have n2_ := Aside0.mk (below_drew1 HB.out)
        clear BK271
        clear BK275
        clear HB
        have BK271 := n0_
        have BK275 := n1_
        have HB := n2_
        clear n0_ n1_ n2_
        refine start_ (n := 11) (S := fun w' => w'.cell? ⟨gb275, 0, none⟩ = some (.string ((rd_T64 l0_1 x23_1).f0)) ∧ w'.cell? ⟨gb275, 1, none⟩ = some (.string ((rd_T64 l0_1 x23_1).f1)) ∧ w'.cell? ⟨gb275, 2, none⟩ = some (.int .i64 ((rd_T64 l0_1 x23_1).f2)) ∧ w'.cell? ⟨gb275, 3, none⟩ = some (.int .i64 ((rd_T64 l0_1 x23_1).f3))) (ds := []) #[false, false, false, false, false, false, false, false, false, false, false] (by kernel_rfl) rfl rfl ⟨(blk_cell BK275.out 0).trans rfl, (blk_cell BK275.out 1).trans rfl, (blk_cell BK275.out 2).trans rfl, (blk_cell BK275.out 3).trans rfl⟩ (fun hHeld => ?_); refine with_tabW sapwoodref04_Bytes.tab12 sapwoodref04_Bytes.bits12 (fun HT_ HW_ => ?_)
        generalize w39.drew = w41 at BK271 BK275 HB hHeld ⊢
        refine pure_ (i := 0) (N := some 45) (v := ?_) (a' := ?_) #[true, false, false, false, false, false, false, false, false, false, false] rfl rfl (any_of HT_.out (by kernel_rfl)) (fun _ _ _ h => h) (Or.inl ⟨by rfl, ?_⟩) ?_ ?_
        rotate_left
        · intro w'
          go_simp
          with_reducible rfl
        rotate_left
        · simp only [Act.put, List.setIfInBounds_toArray, List.set_cons_zero, List.set_cons_succ, i64_w, i32_w]
          rfl
        refine pure_ (i := 1) (N := some 46) (v := ?_) (a' := ?_) #[true, true, false, false, false, false, false, false, false, false, false] rfl rfl (any_of HT_.out (by kernel_rfl)) (fun _ _ _ h => h) (Or.inl ⟨by rfl, ?_⟩) ?_ ?_
        rotate_left
        · intro w'
          go_simp
          with_reducible rfl
        rotate_left
        · simp only [Act.put, List.setIfInBounds_toArray, List.set_cons_zero, List.set_cons_succ, i64_w, i32_w]
          rfl
        refine pure_ (i := 2) (N := some 47) (v := ?_) (a' := ?_) #[true, true, true, false, false, false, false, false, false, false, false] rfl rfl (any_of HT_.out (by kernel_rfl)) (fun _ _ _ h => h) (Or.inl ⟨by rfl, ?_⟩) ?_ ?_
        rotate_left
        · intro w'
          go_simp
          with_reducible rfl
        rotate_left
        · simp only [Act.put, List.setIfInBounds_toArray, List.set_cons_zero, List.set_cons_succ, i64_w, i32_w]
          rfl
        refine pure_ (i := 6) (N := some 51) (v := ?_) (a' := ?_) #[true, true, true, false, false, false, true, false, false, false, false] rfl rfl (any_of HT_.out (by kernel_rfl)) (fun _ _ _ h => h) (Or.inl ⟨by rfl, ?_⟩) ?_ ?_
        rotate_left
        · intro w'
          go_simp
          with_reducible rfl
        rotate_left
        · simp only [Act.put, List.setIfInBounds_toArray, List.set_cons_zero, List.set_cons_succ, i64_w, i32_w]
          rfl
        refine take_ (i := 3) (N := some 48) (v := ?_) (a' := ?_) #[true, true, true, true, false, false, true, false, false, false, false] rfl rfl (take_ofW HT_.out HW_.out (by kernel_rfl)) (fun _ _ _ h => h) (Or.inl ⟨by rfl, ?_⟩) hHeld ?_ ?_
        rotate_left
        · rintro w' ⟨s0, s1, s2, s3⟩
          go_simp
          with_reducible rfl
        rotate_left
        · simp only [Act.put, List.setIfInBounds_toArray, List.set_cons_zero, List.set_cons_succ, i64_w, i32_w]
          rfl
        refine take_ (i := 7) (N := some 52) (v := ?_) (a' := ?_) #[true, true, true, true, false, false, true, true, false, false, false] rfl rfl (take_ofW HT_.out HW_.out (by kernel_rfl)) (fun _ _ _ h => h) (Or.inl ⟨by rfl, ?_⟩) hHeld ?_ ?_
        rotate_left
        · rintro w' ⟨s0, s1, s2, s3⟩
          go_simp
          with_reducible rfl
        rotate_left
        · simp only [Act.put, List.setIfInBounds_toArray, List.set_cons_zero, List.set_cons_succ, i64_w, i32_w]
          rfl
        refine one_ (i := 4) (N := some 49) #[true, true, true, true, true, false, true, true, false, false, false] rfl rfl (one_of HT_.out (by kernel_rfl)) (by decide) (fun K hK => ?_)
        refine goes_ Try.func51 (by kernel_rfl) rfl #[.int .i64 ((rd_T64 l0_1 x23_1).f2), .int .i64 2] (by rfl) rfl rfl (by (try simp only [List.map_toArray, List.map_cons, List.map_nil]); first | done | rfl | (simp only [List.length_drop, List.length_take]; rfl)) ?_
        with_reducible refine (sapwoodref01_Number.calls k1 ((rd_T64 l0_1 x23_1).f2) 2 t278 _ A31.out).mono ?_
        rintro e w42 ⟨rfl, hb⟩
        refine ⟨_, rfl, ?_⟩
        have n0_ := Aside0.mk (blk_below (g := gb271) (o := .cells #[.int .i64 a0_0, .slice (some ad274) l0_1.length c0_1, .slice A0_2 l0_2.length c0_2, .string a0_3, .int .i64 a0_4] 35 (0, 0)) (by (with_reducible repeat (first | refine blk_drewN ?_ _ | refine blk_drew ?_ | refine blk_alloc ?_ _)); exact BK271.out) hb)
        have n1_ := Aside0.mk (blk_below (g := gb275) (o := .cells #[.string ((rd_T64 l0_1 x23_1).f0), .string ((rd_T64 l0_1 x23_1).f1), .int .i64 ((rd_T64 l0_1 x23_1).f2), .int .i64 ((rd_T64 l0_1 x23_1).f3)] 64 (0, 0)) (by (with_reducible repeat (first | refine blk_drewN ?_ _ | refine blk_drew ?_ | refine blk_alloc ?_ _)); exact BK275.out) hb)
        have n2_ := Aside0.mk (below_step (by repeat (first | (with_reducible first | exact HB.out | apply below_alloc | apply pw_below_drewN | apply below_drew1 | refine below_set ?_ GE271.out | refine below_set ?_ GE275.out) | exact HB.out)) hb)
        clear BK271
        clear BK275
        clear HB
        have BK271 := n0_
        have BK275 := n1_
        have HB := n2_
        clear n0_ n1_ n2_
        (try clear hb)
        (try clear hb2)
        (try clear hk)
        (try clear hi)
        refine hK.out _ _ ⟨(blk_cell BK275.out 0).trans rfl, (blk_cell BK275.out 1).trans rfl, (blk_cell BK275.out 2).trans rfl, (blk_cell BK275.out 3).trans rfl⟩ (fun hHeld => ?_)
        clear hK K
        refine norm_ (a' := ?_) ?_ ?_
        rotate_left
        · show Act.put _ (some 49) _ = _
          simp only [Act.put, List.setIfInBounds_toArray, List.set_cons_zero, List.set_cons_succ, i64_w, i32_w]
          rfl
        refine pure_ (i := 5) (N := some 50) (v := ?_) (a' := ?_) #[true, true, true, true, true, true, true, true, false, false, false] rfl rfl (any_of HT_.out (by kernel_rfl)) (fun _ _ _ h => h) (Or.inl ⟨by rfl, ?_⟩) ?_ ?_
        rotate_left
        · intro w'
          go_simp
          with_reducible rfl
        rotate_left
        · simp only [Act.put, List.setIfInBounds_toArray, List.set_cons_zero, List.set_cons_succ, i64_w, i32_w]
          rfl
        refine one_ (i := 8) (N := some 53) #[true, true, true, true, true, true, true, true, true, false, false] rfl rfl (one_of HT_.out (by kernel_rfl)) (by decide) (fun K hK => ?_)
        refine goes_ Try.func51 (by kernel_rfl) rfl #[.int .i64 ((rd_T64 l0_1 x23_1).f3), .int .i64 2] (by rfl) rfl rfl (by (try simp only [List.map_toArray, List.map_cons, List.map_nil]); first | done | rfl | (simp only [List.length_drop, List.length_take]; rfl)) ?_
        with_reducible refine (sapwoodref01_Number.calls k1 ((rd_T64 l0_1 x23_1).f3) 2 t279 _ A33.out).mono ?_
        rintro e w43 ⟨rfl, hb⟩
        refine ⟨_, rfl, ?_⟩
        have n0_ := Aside0.mk (blk_below (g := gb271) (o := .cells #[.int .i64 a0_0, .slice (some ad274) l0_1.length c0_1, .slice A0_2 l0_2.length c0_2, .string a0_3, .int .i64 a0_4] 35 (0, 0)) (by (with_reducible repeat (first | refine blk_drewN ?_ _ | refine blk_drew ?_ | refine blk_alloc ?_ _)); exact BK271.out) hb)
        have n1_ := Aside0.mk (blk_below (g := gb275) (o := .cells #[.string ((rd_T64 l0_1 x23_1).f0), .string ((rd_T64 l0_1 x23_1).f1), .int .i64 ((rd_T64 l0_1 x23_1).f2), .int .i64 ((rd_T64 l0_1 x23_1).f3)] 64 (0, 0)) (by (with_reducible repeat (first | refine blk_drewN ?_ _ | refine blk_drew ?_ | refine blk_alloc ?_ _)); exact BK275.out) hb)
        have n2_ := Aside0.mk (below_step (by repeat (first | (with_reducible first | exact HB.out | apply below_alloc | apply pw_below_drewN | apply below_drew1 | refine below_set ?_ GE271.out | refine below_set ?_ GE275.out) | exact HB.out)) hb)
        clear BK271
        clear BK275
        clear HB
        have BK271 := n0_
        have BK275 := n1_
        have HB := n2_
        clear n0_ n1_ n2_
        (try clear hb)
        (try clear hb2)
        (try clear hk)
        (try clear hi)
        refine hK.out _ _ ⟨(blk_cell BK275.out 0).trans rfl, (blk_cell BK275.out 1).trans rfl, (blk_cell BK275.out 2).trans rfl, (blk_cell BK275.out 3).trans rfl⟩ (fun hHeld => ?_)
        clear hK K
        refine norm_ (a' := ?_) ?_ ?_
        rotate_left
        · show Act.put _ (some 53) _ = _
          simp only [Act.put, List.setIfInBounds_toArray, List.set_cons_zero, List.set_cons_succ, i64_w, i32_w]
          rfl
        refine pure_ (i := 9) (N := some 54) (v := ?_) (a' := ?_) #[true, true, true, true, true, true, true, true, true, true, false] rfl rfl (any_of HT_.out (by kernel_rfl)) (fun _ _ _ h => h) (Or.inl ⟨by rfl, ?_⟩) ?_ ?_
        rotate_left
        · intro w'
          go_simp
          with_reducible rfl
        rotate_left
        · simp only [Act.put, List.setIfInBounds_toArray, List.set_cons_zero, List.set_cons_succ, i64_w, i32_w]
          rfl
        refine pure_ (i := 10) (N := some 3) (v := ?_) (a' := ?_) #[true, true, true, true, true, true, true, true, true, true, true] rfl rfl (any_of HT_.out (by kernel_rfl)) (fun _ _ _ h => h) (Or.inl ⟨by rfl, ?_⟩) ?_ ?_
        rotate_left
        · intro w'
          go_simp
          with_reducible rfl
        rotate_left
        · simp only [Act.put, List.setIfInBounds_toArray, List.set_cons_zero, List.set_cons_succ, i64_w, i32_w]
          rfl
        refine done_ (done_of HT_.out (by kernel_rfl)) ?_
        try go_wp2
        go_roundg k1
        case measure => have := HK1.out; omega
        case rel => exact ⟨((((x3_1 ++ t276) ++ (⟨#[1]⟩ : ByteArray)) ++ t278) ++ t279), (wrap64 (x23_1 + 1)), (by first | rfl | (simp; done) | (simp [*]; done)), (by first | rfl | (simp; done) | (simp [*]; done)), H', ⟨by have := HK1.out; omega⟩, ⟨by (with_reducible repeat (first | refine blk_drewN ?_ _ | refine blk_drew ?_ | refine blk_alloc ?_ _)); exact BK271.out⟩, ⟨by repeat (first | (with_reducible first | exact HB.out | apply below_alloc | apply pw_below_drewN | apply below_drew1 | refine below_set ?_ GE271.out | refine below_set ?_ GE275.out) | exact HB.out)⟩⟩
  case rest =>
    clear HC3
    try clear c1
    try clear c2
    try clear p2
    try clear q2
    try clear hx2
    try clear c3
    try clear c4
    try clear c5
    try clear c6
    try clear p6
    try clear c14
    try clear c14b0
    try clear c15
    try clear c15b0
    try clear c16
    try clear c16b0
    try clear c18
    try clear c18b0
    try clear c18b1
    try clear c18b2
    try clear c19
    try clear c19b0
    try clear c19b1
    try clear c20
    try clear c20b0
    try clear c20b1
    try clear c20b2
    try clear c22
    try clear c22b0
    try clear c22b1
    try clear c22b2
    try clear c25
    try clear p27
    try clear q27
    try clear hx27
    try clear p28
    try clear q28
    try clear hx28
    try clear c30
    try clear c30b0
    try clear c30b1
    try clear c30b2
    try clear c32
    try clear c32b0
    try clear c32b1
    try clear c32b2
    try clear c34
    try clear c34b0
    try clear c34b1
    try clear c34b2
    try clear c35
    try clear c37
    try clear c44
    try clear c44b0
    try clear c44b1
    try clear c46
    try clear c46b0
    try clear c46b1
    try clear c46b2
    try clear c50
    try clear c50b0
    try clear c51
    try clear c51b0
    try clear c52
    try clear c52b0
    try clear c54
    try clear c54b0
    try clear c54b1
    try clear c54b2
    try clear c56
    try clear c56b0
    try clear c56b1
    try clear c56b2
    try clear c60
    try clear c60b0
    try clear c60b1
    try clear c62
    try clear c62b0
    try clear c62b1
    try clear c62b2
    try clear c64
    try clear c64b0
    try clear c64b1
    try clear c64b2
    try clear p64
    try clear hcz11_0
    try clear hcz11_1
    try clear hcz11_2
    try clear hcz11_3
    try clear hcz11_4
    try clear hcz13_0
    try clear hcz13_1
    try clear hcz13_2
    try clear hcz13_3
    try clear hcz13_4
    try clear hcz23_0
    try clear hcz23_1
    try clear hcz23_2
    try clear hcz23_3
    try clear hcz23_4
    try clear hcz26_0
    try clear hcz26_1
    try clear hcz26_2
    try clear hcz26_3
    try clear hcz28_0
    try clear hcz28_1
    try clear hcz28_2
    try clear hcz28_3
    try clear hcz35_0
    try clear hcz35_1
    try clear hcz35_2
    try clear hcz35_3
    try clear hcz35_4
    try clear hcz38_0
    try clear hcz38_1
    try clear hcz38_2
    try clear hcz38_3
    try clear hcz40_0
    try clear hcz40_1
    try clear hcz40_2
    try clear hcz40_3
    try clear hcz47_0
    try clear hcz47_1
    try clear hcz47_2
    try clear hcz47_3
    try clear hcz47_4
    try clear hcz49_0
    try clear hcz49_1
    try clear hcz49_2
    try clear hcz49_3
    try clear hcz49_4
    try clear hcz5_0
    try clear hcz5_1
    try clear hcz5_2
    try clear hcz5_3
    try clear hcz5_4
    try clear hcz7_0
    try clear hcz7_1
    try clear hcz7_2
    try clear hcz7_3
    try clear hcz7_4
    try clear hfz11_0
    try clear hfz11_1
    try clear hfz11_2
    try clear hfz11_3
    try clear hfz11_4
    try clear hfz13_0
    try clear hfz13_1
    try clear hfz13_2
    try clear hfz13_3
    try clear hfz13_4
    try clear hfz23_0
    try clear hfz23_1
    try clear hfz23_2
    try clear hfz23_3
    try clear hfz23_4
    try clear hfz26_0
    try clear hfz26_1
    try clear hfz26_2
    try clear hfz26_3
    try clear hfz28_0
    try clear hfz28_1
    try clear hfz28_2
    try clear hfz28_3
    try clear hfz35_0
    try clear hfz35_1
    try clear hfz35_2
    try clear hfz35_3
    try clear hfz35_4
    try clear hfz38_0
    try clear hfz38_1
    try clear hfz38_2
    try clear hfz38_3
    try clear hfz40_0
    try clear hfz40_1
    try clear hfz40_2
    try clear hfz40_3
    try clear hfz47_0
    try clear hfz47_1
    try clear hfz47_2
    try clear hfz47_3
    try clear hfz47_4
    try clear hfz49_0
    try clear hfz49_1
    try clear hfz49_2
    try clear hfz49_3
    try clear hfz49_4
    try clear hfz5_0
    try clear hfz5_1
    try clear hfz5_2
    try clear hfz5_3
    try clear hfz5_4
    try clear hfz7_0
    try clear hfz7_1
    try clear hfz7_2
    try clear hfz7_3
    try clear hfz7_4
    try clear hx274_0
    try clear hx274_1
    try clear hx274_2
    try clear hx274_3
    try clear hx281_0
    try clear hx281_1
    try clear hx283_0
    try clear hx283_1
    try clear p2
    try clear p27
    try clear p274
    try clear p281
    try clear p283
    try clear q27
    try clear q274
    try clear q281
    try clear q283
    obtain ⟨kq, x3_2, rfl, HA, HJ2, HB⟩ := hcut
    cases kq with
    | zero => exact absurd HA.out (by simp [sapwoodref04_Bytes.j2])
    | succ kj2 =>
      have H := HA.out
      clear HA
      simp only [sapwoodref04_Bytes.j2] at H
      have H' := Aside0.mk H
      clear H
      go_wp2
      go_loopg [3] kj2 (fun kq v3 w' => ∃ (x3_2 : ByteArray), v3 = .string x3_2 ∧ Aside0 (sapwoodref04_Bytes.l2 kq x3_2 = some r) ∧ Aside0 (kq ≤ kj2) ∧ Aside0 (Below w.heap.size w w'))
      case atStart => exact ⟨(x3_2), (by first | rfl | (simp; done) | (simp [*]; done)), H', ⟨Nat.le_refl _⟩, ⟨by repeat (first | (with_reducible first | exact HB.out | apply below_alloc | apply pw_below_drewN | apply below_drew1) | exact HB.out)⟩⟩
      case round =>
        clear H'
        try clear c1
        try clear c2
        try clear p2
        try clear q2
        try clear hx2
        try clear c3
        try clear c4
        try clear c5
        try clear c6
        try clear p6
        try clear c14
        try clear c14b0
        try clear c15
        try clear c15b0
        try clear c16
        try clear c16b0
        try clear c18
        try clear c18b0
        try clear c18b1
        try clear c18b2
        try clear c19
        try clear c19b0
        try clear c19b1
        try clear c20
        try clear c20b0
        try clear c20b1
        try clear c20b2
        try clear c22
        try clear c22b0
        try clear c22b1
        try clear c22b2
        try clear c25
        try clear p27
        try clear q27
        try clear hx27
        try clear p28
        try clear q28
        try clear hx28
        try clear c30
        try clear c30b0
        try clear c30b1
        try clear c30b2
        try clear c32
        try clear c32b0
        try clear c32b1
        try clear c32b2
        try clear c34
        try clear c34b0
        try clear c34b1
        try clear c34b2
        try clear c35
        try clear c37
        try clear c44
        try clear c44b0
        try clear c44b1
        try clear c46
        try clear c46b0
        try clear c46b1
        try clear c46b2
        try clear c50
        try clear c50b0
        try clear c51
        try clear c51b0
        try clear c52
        try clear c52b0
        try clear c54
        try clear c54b0
        try clear c54b1
        try clear c54b2
        try clear c56
        try clear c56b0
        try clear c56b1
        try clear c56b2
        try clear c60
        try clear c60b0
        try clear c60b1
        try clear c62
        try clear c62b0
        try clear c62b1
        try clear c62b2
        try clear c64
        try clear c64b0
        try clear c64b1
        try clear c64b2
        try clear p64
        try clear hcz11_0
        try clear hcz11_1
        try clear hcz11_2
        try clear hcz11_3
        try clear hcz11_4
        try clear hcz13_0
        try clear hcz13_1
        try clear hcz13_2
        try clear hcz13_3
        try clear hcz13_4
        try clear hcz23_0
        try clear hcz23_1
        try clear hcz23_2
        try clear hcz23_3
        try clear hcz23_4
        try clear hcz26_0
        try clear hcz26_1
        try clear hcz26_2
        try clear hcz26_3
        try clear hcz28_0
        try clear hcz28_1
        try clear hcz28_2
        try clear hcz28_3
        try clear hcz35_0
        try clear hcz35_1
        try clear hcz35_2
        try clear hcz35_3
        try clear hcz35_4
        try clear hcz38_0
        try clear hcz38_1
        try clear hcz38_2
        try clear hcz38_3
        try clear hcz40_0
        try clear hcz40_1
        try clear hcz40_2
        try clear hcz40_3
        try clear hcz47_0
        try clear hcz47_1
        try clear hcz47_2
        try clear hcz47_3
        try clear hcz47_4
        try clear hcz49_0
        try clear hcz49_1
        try clear hcz49_2
        try clear hcz49_3
        try clear hcz49_4
        try clear hcz5_0
        try clear hcz5_1
        try clear hcz5_2
        try clear hcz5_3
        try clear hcz5_4
        try clear hcz7_0
        try clear hcz7_1
        try clear hcz7_2
        try clear hcz7_3
        try clear hcz7_4
        try clear hfz11_0
        try clear hfz11_1
        try clear hfz11_2
        try clear hfz11_3
        try clear hfz11_4
        try clear hfz13_0
        try clear hfz13_1
        try clear hfz13_2
        try clear hfz13_3
        try clear hfz13_4
        try clear hfz23_0
        try clear hfz23_1
        try clear hfz23_2
        try clear hfz23_3
        try clear hfz23_4
        try clear hfz26_0
        try clear hfz26_1
        try clear hfz26_2
        try clear hfz26_3
        try clear hfz28_0
        try clear hfz28_1
        try clear hfz28_2
        try clear hfz28_3
        try clear hfz35_0
        try clear hfz35_1
        try clear hfz35_2
        try clear hfz35_3
        try clear hfz35_4
        try clear hfz38_0
        try clear hfz38_1
        try clear hfz38_2
        try clear hfz38_3
        try clear hfz40_0
        try clear hfz40_1
        try clear hfz40_2
        try clear hfz40_3
        try clear hfz47_0
        try clear hfz47_1
        try clear hfz47_2
        try clear hfz47_3
        try clear hfz47_4
        try clear hfz49_0
        try clear hfz49_1
        try clear hfz49_2
        try clear hfz49_3
        try clear hfz49_4
        try clear hfz5_0
        try clear hfz5_1
        try clear hfz5_2
        try clear hfz5_3
        try clear hfz5_4
        try clear hfz7_0
        try clear hfz7_1
        try clear hfz7_2
        try clear hfz7_3
        try clear hfz7_4
        try clear hx274_0
        try clear hx274_1
        try clear hx274_2
        try clear hx274_3
        try clear hx281_0
        try clear hx281_1
        try clear hx283_0
        try clear hx283_1
        try clear p2
        try clear p27
        try clear p274
        try clear p28
        try clear p281
        try clear p283
        try clear p6
        try clear p64
        try clear q2
        try clear q27
        try clear q274
        try clear q28
        try clear q281
        try clear q283
        obtain ⟨x3_2, rfl, HA, HK2, HB⟩ := hrel
        cases gk with
        | zero => exact absurd HA.out (by rw [sapwoodref04_Bytes.l2.eq_def]; simp)
        | succ k2 =>
          have H := HA.out
          clear HA
          rw [sapwoodref04_Bytes.l2.eq_def] at H
          simp only [] at H
          by_cases c68 : (x3_2.size : Int) < 252
          · rw [if_pos c68] at H
            have c68b0 := decide_eq_true c68
            have c68b1 : decide (x3_2.size < 252) = true := decide_eq_true (by omega)
            clear c68
            by_cases c69 : x3_2.size + 1 ≤ 9223372036854775807
            rotate_left
            · rw [if_neg c69] at H
              exact absurd H (by simp)
            rw [if_pos c69] at H
            have c69b0 := eq_true c69
            have c69b1 := decide_eq_true c69
            try have c69b2 : (9223372036854775807 < x3_2.size + 1) = False := eq_false (Nat.not_lt.2 c69)
            have H' := Aside0.mk H
            clear H
            go_wp2
            go_roundg k2
            case measure => have := HJ2.out; have := HK2.out; omega
            case rel => exact ⟨(x3_2 ++ (⟨#[0]⟩ : ByteArray)), (by first | rfl | (simp; done) | (simp [*]; done)), H', ⟨by have := HJ2.out; have := HK2.out; omega⟩, ⟨by repeat (first | (with_reducible first | exact HB.out | apply below_alloc | apply pw_below_drewN | apply below_drew1) | exact HB.out)⟩⟩
          rw [if_neg c68] at H
          have c68b0 : decide ((x3_2.size : Int) < 252) = false := decide_eq_false c68
          have c68b1 : decide (x3_2.size < 252) = false := decide_eq_false (by omega)
          clear c68
          replace H := Option.bind_eq_some_iff.mp H
          obtain ⟨t287, A700, H⟩ := H
          replace H : (some t287) = some r := H
          have A70 := Aside0.mk A700
          clear A700
          obtain rfl := Option.some.inj H
          go_wp2_with (first | ((with_reducible refine gate_callee (f := 53) rfl ?_); refine goesL_ (some 105) rfl rfl Try.func53 (by kernel_rfl) rfl #[.string x3_2] rfl (by (try simp only [List.map_toArray, List.map_cons, List.map_nil]); first | done | rfl | (simp only [List.length_drop, List.length_take]; rfl)) ?_; (with_reducible refine (sapwoodref02_Seal.calls k2 x3_2 t287 _ A70.out).mono ?_); rintro e w71 ⟨rfl, hb⟩; refine ⟨_, rfl, ?_⟩; have n0_ := Aside0.mk (below_step (by repeat (first | (with_reducible first | exact HB.out | apply below_alloc | apply pw_below_drewN | apply below_drew1) | exact HB.out)) hb); clear HB; have HB := n0_; clear n0_; (try clear hb); (try clear hb2); (try clear hk); (try clear hi)))
          go_ret
          exact ⟨by first | rfl | (simp [errW_none, errW_some] <;> rfl) | (simp [*, errW_none, errW_some] <;> rfl), by repeat (first | (with_reducible first | exact HB.out | apply below_alloc | apply pw_below_drewN | apply below_drew1) | exact HB.out)⟩
end Go.Proofs.Ytgbcfkcnoncgdaa.Sp
