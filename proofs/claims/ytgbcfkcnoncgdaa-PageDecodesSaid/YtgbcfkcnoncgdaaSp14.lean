import Derived.Test.YtgbcfkcnoncgdaaSp0
import Derived.Test.YtgbcfkcnoncgdaaSp1
import Derived.Test.YtgbcfkcnoncgdaaSp2
namespace Go.Proofs.Ytgbcfkcnoncgdaa.Sp
open Go.Proofs.Ytgbcfkcnoncgdaa.Hand
open Go.RowKit Go.Proofs.YtgbcfkcnoncgdaaW.PrintWords Go.Proofs.YtgbcfkcnoncgdaaW.PrintLast Go.Proofs.YtgbcfkcnoncgdaaW.PrintMore
attribute [local go_sem] max2_int min2_int max_two min_two max_three min_three max_four min_four
set_option linter.unusedVariables false
set_option linter.unusedSimpArgs false
attribute [local go_sem high] eqA64 eqA65
mutual
def sapwoodref04_Same.j0 : Nat → Bool → Int → List (S64) → List (S65) → ByteArray → Int → Int → List (S64) → List (S65) → ByteArray → Int → Option (Bool)
  | 0, _, _, _, _, _, _, _, _, _, _, _ => none
  | k + 1, x43, x330000, x330001, x330002, x330003, x330004, x331000, x331001, x331002, x331003, x331004 => if x43 = true then (some false) else (sapwoodref04_Same.l0 k (x330001.length : Int) 0 x330000 x330001 x330002 x330003 x330004 x331000 x331001 x331002 x331003 x331004)
def sapwoodref04_Same.l0 : Nat → Int → Int → Int → List (S64) → List (S65) → ByteArray → Int → Int → List (S64) → List (S65) → ByteArray → Int → Option (Bool)
  | 0, _, _, _, _, _, _, _, _, _, _, _, _ => none
  | k + 1, x46, x47, x330000, x330001, x330002, x330003, x330004, x331000, x331001, x331002, x331003, x331004 => if x47 < x46 then (if 0 ≤ x47 then (if x47 < (x330001.length : Int) then (if x47 < (x331001.length : Int) then (if (!((((rd_T64 x330001 x47).f0).toList) == (((rd_T64 x331001 x47).f0).toList)) || (!((((rd_T64 x330001 x47).f1).toList) == (((rd_T64 x331001 x47).f1).toList)) || (!(((rd_T64 x330001 x47).f2) == ((rd_T64 x331001 x47).f2)) || (!(((rd_T64 x330001 x47).f3) == ((rd_T64 x331001 x47).f3)))))) = true then (some false) else (sapwoodref04_Same.l0 k x46 (wrap64 (x47 + 1)) x330000 x330001 x330002 x330003 x330004 x331000 x331001 x331002 x331003 x331004)) else (none)) else (none)) else (none)) else (sapwoodref04_Same.l1 k (x330002.length : Int) 0 x330000 x330001 x330002 x330003 x330004 x331000 x331001 x331002 x331003 x331004)
def sapwoodref04_Same.l1 : Nat → Int → Int → Int → List (S64) → List (S65) → ByteArray → Int → Int → List (S64) → List (S65) → ByteArray → Int → Option (Bool)
  | 0, _, _, _, _, _, _, _, _, _, _, _, _ => none
  | k + 1, x64, x65, x330000, x330001, x330002, x330003, x330004, x331000, x331001, x331002, x331003, x331004 => if x65 < x64 then (if 0 ≤ x65 then (if x65 < (x330002.length : Int) then (if x65 < (x331002.length : Int) then (if (!((((rd_T65 x330002 x65).f0).toList) == (((rd_T65 x331002 x65).f0).toList)) || (!(((rd_T65 x330002 x65).f1) == ((rd_T65 x331002 x65).f1)))) = true then (some false) else (sapwoodref04_Same.l1 k x64 (wrap64 (x65 + 1)) x330000 x330001 x330002 x330003 x330004 x331000 x331001 x331002 x331003 x331004)) else (none)) else (none)) else (none)) else (some true)
end
def sapwoodref04_Same.f (k : Nat) (a0_0 : Int) (l0_1 : List (S64)) (l0_2 : List (S65)) (a0_3 : ByteArray) (a0_4 : Int) (a1_0 : Int) (l1_1 : List (S64)) (l1_2 : List (S65)) (a1_3 : ByteArray) (a1_4 : Int) : Option (Bool) := if a0_0 = a1_0 then (if a0_3.toList = a1_3.toList then (if a0_4 = a1_4 then (if (l0_1.length : Int) = (l1_1.length : Int) then (sapwoodref04_Same.j0 k ((l0_2.length : Int) != (l1_2.length : Int)) a0_0 l0_1 l0_2 a0_3 a0_4 a1_0 l1_1 l1_2 a1_3 a1_4) else (sapwoodref04_Same.j0 k true a0_0 l0_1 l0_2 a0_3 a0_4 a1_0 l1_1 l1_2 a1_3 a1_4)) else (sapwoodref04_Same.j0 k true a0_0 l0_1 l0_2 a0_3 a0_4 a1_0 l1_1 l1_2 a1_3 a1_4)) else (sapwoodref04_Same.j0 k true a0_0 l0_1 l0_2 a0_3 a0_4 a1_0 l1_1 l1_2 a1_3 a1_4)) else (sapwoodref04_Same.j0 k true a0_0 l0_1 l0_2 a0_3 a0_4 a1_0 l1_1 l1_2 a1_3 a1_4)
theorem sapwoodref04_Same.mono_l : ∀ k, (∀ y0 y1 y2 y3 y4 y5 y6 y7 y8 y9 y10, LeO (sapwoodref04_Same.j0 k y0 y1 y2 y3 y4 y5 y6 y7 y8 y9 y10) (sapwoodref04_Same.j0 (k + 1) y0 y1 y2 y3 y4 y5 y6 y7 y8 y9 y10)) ∧ (∀ y0 y1 y2 y3 y4 y5 y6 y7 y8 y9 y10 y11, LeO (sapwoodref04_Same.l0 k y0 y1 y2 y3 y4 y5 y6 y7 y8 y9 y10 y11) (sapwoodref04_Same.l0 (k + 1) y0 y1 y2 y3 y4 y5 y6 y7 y8 y9 y10 y11)) ∧ (∀ y0 y1 y2 y3 y4 y5 y6 y7 y8 y9 y10 y11, LeO (sapwoodref04_Same.l1 k y0 y1 y2 y3 y4 y5 y6 y7 y8 y9 y10 y11) (sapwoodref04_Same.l1 (k + 1) y0 y1 y2 y3 y4 y5 y6 y7 y8 y9 y10 y11))
  | 0 => ⟨fun _ _ _ _ _ _ _ _ _ _ _ r h => by simp [sapwoodref04_Same.j0] at h, fun _ _ _ _ _ _ _ _ _ _ _ _ r h => by simp [sapwoodref04_Same.l0] at h, fun _ _ _ _ _ _ _ _ _ _ _ _ r h => by simp [sapwoodref04_Same.l1] at h⟩
  | k + 1 => by
    obtain ⟨ih0, ih1, ih2⟩ := sapwoodref04_Same.mono_l k
    refine ⟨?_, ?_, ?_⟩
    · intro y0 y1 y2 y3 y4 y5 y6 y7 y8 y9 y10
      unfold sapwoodref04_Same.j0
      repeat' first
      | (with_reducible exact ih0 _ _ _ _ _ _ _ _ _ _ _)
      | (with_reducible exact ih1 _ _ _ _ _ _ _ _ _ _ _ _)
      | (with_reducible exact ih2 _ _ _ _ _ _ _ _ _ _ _ _)
      | (with_reducible exact LeO.refl _)
      | (with_reducible exact LeO.none _)
      | (with_reducible refine LeO.ite ?_ ?_)
      | (with_reducible refine LeO.bind ?_ (fun _ => ?_))
      | exact ih0 _ _ _ _ _ _ _ _ _ _ _
      | exact ih1 _ _ _ _ _ _ _ _ _ _ _ _
      | exact ih2 _ _ _ _ _ _ _ _ _ _ _ _
      | exact LeO.none _
      | refine LeO.ite ?_ ?_
      | refine LeO.bind ?_ (fun _ => ?_)
    · intro y0 y1 y2 y3 y4 y5 y6 y7 y8 y9 y10 y11
      unfold sapwoodref04_Same.l0
      repeat' first
      | (with_reducible exact ih0 _ _ _ _ _ _ _ _ _ _ _)
      | (with_reducible exact ih1 _ _ _ _ _ _ _ _ _ _ _ _)
      | (with_reducible exact ih2 _ _ _ _ _ _ _ _ _ _ _ _)
      | (with_reducible exact LeO.refl _)
      | (with_reducible exact LeO.none _)
      | (with_reducible refine LeO.ite ?_ ?_)
      | (with_reducible refine LeO.bind ?_ (fun _ => ?_))
      | exact ih0 _ _ _ _ _ _ _ _ _ _ _
      | exact ih1 _ _ _ _ _ _ _ _ _ _ _ _
      | exact ih2 _ _ _ _ _ _ _ _ _ _ _ _
      | exact LeO.none _
      | refine LeO.ite ?_ ?_
      | refine LeO.bind ?_ (fun _ => ?_)
    · intro y0 y1 y2 y3 y4 y5 y6 y7 y8 y9 y10 y11
      unfold sapwoodref04_Same.l1
      repeat' first
      | (with_reducible exact ih0 _ _ _ _ _ _ _ _ _ _ _)
      | (with_reducible exact ih1 _ _ _ _ _ _ _ _ _ _ _ _)
      | (with_reducible exact ih2 _ _ _ _ _ _ _ _ _ _ _ _)
      | (with_reducible exact LeO.refl _)
      | (with_reducible exact LeO.none _)
      | (with_reducible refine LeO.ite ?_ ?_)
      | (with_reducible refine LeO.bind ?_ (fun _ => ?_))
      | exact ih0 _ _ _ _ _ _ _ _ _ _ _
      | exact ih1 _ _ _ _ _ _ _ _ _ _ _ _
      | exact ih2 _ _ _ _ _ _ _ _ _ _ _ _
      | exact LeO.none _
      | refine LeO.ite ?_ ?_
      | refine LeO.bind ?_ (fun _ => ?_)
theorem sapwoodref04_Same.mono : ∀ a0 a1 a2 a3 a4 a5 a6 a7 a8 a9 k, LeO (sapwoodref04_Same.f k a0 a1 a2 a3 a4 a5 a6 a7 a8 a9) (sapwoodref04_Same.f (k + 1) a0 a1 a2 a3 a4 a5 a6 a7 a8 a9) := by
  intro a0 a1 a2 a3 a4 a5 a6 a7 a8 a9 k
  obtain ⟨ih0, ih1, ih2⟩ := sapwoodref04_Same.mono_l k
  unfold sapwoodref04_Same.f
  repeat' first
      | (with_reducible exact ih0 _ _ _ _ _ _ _ _ _ _ _)
      | (with_reducible exact ih1 _ _ _ _ _ _ _ _ _ _ _ _)
      | (with_reducible exact ih2 _ _ _ _ _ _ _ _ _ _ _ _)
      | (with_reducible exact LeO.refl _)
      | (with_reducible exact LeO.none _)
      | (with_reducible refine LeO.ite ?_ ?_)
      | (with_reducible refine LeO.bind ?_ (fun _ => ?_))
      | exact ih0 _ _ _ _ _ _ _ _ _ _ _
      | exact ih1 _ _ _ _ _ _ _ _ _ _ _ _
      | exact ih2 _ _ _ _ _ _ _ _ _ _ _ _
      | exact LeO.none _
      | refine LeO.ite ?_ ?_
      | refine LeO.bind ?_ (fun _ => ?_)
set_option maxHeartbeats 8000000 in
set_option maxRecDepth 100000 in
theorem sapwoodref04_Same.calls (k : Nat) (a0_0 : Int) (A0_1 : Option Addr) (c0_1 : Nat) (l0_1 : List (S64)) (A0_2 : Option Addr) (c0_2 : Nat) (l0_2 : List (S65)) (a0_3 : ByteArray) (a0_4 : Int) (a1_0 : Int) (A1_1 : Option Addr) (c1_1 : Nat) (l1_1 : List (S64)) (A1_2 : Option Addr) (c1_2 : Nat) (l1_2 : List (S65)) (a1_3 : ByteArray) (a1_4 : Int) (r : Bool) (w : World) (hr0_1 : Kd.C k64 w A0_1 l0_1.length l0_1) (hc0_1 : l0_1.length ≤ c0_1) (hr0_2 : Kd.C k65 w A0_2 l0_2.length l0_2) (hc0_2 : l0_2.length ≤ c0_2) (hr1_1 : Kd.C k64 w A1_1 l1_1.length l1_1) (hc1_1 : l1_1.length ≤ c1_1) (hr1_2 : Kd.C k65 w A1_2 l1_2.length l1_2) (hc1_2 : l1_2.length ≤ c1_2) (h : sapwoodref04_Same.f k a0_0 l0_1 l0_2 a0_3 a0_4 a1_0 l1_1 l1_2 a1_3 a1_4 = some r) :
    Calls Try.prog 11 #[.agg #[.int .i64 a0_0, .slice A0_1 l0_1.length c0_1, .slice A0_2 l0_2.length c0_2, .string a0_3, .int .i64 a0_4], .agg #[.int .i64 a1_0, .slice A1_1 l1_1.length c1_1, .slice A1_2 l1_2.length c1_2, .string a1_3, .int .i64 a1_4]] w fun e w' => e = .returned (.bool r) ∧ Below w.heap.size w w' := by
  have hu35 := Try.underlying35
  have hu64 := Try.underlying64
  have hu65 := Try.underlying65
  have HR0_1 := Aside0.mk hr0_1
  have HC0_1 := Aside0.mk hc0_1
  clear hr0_1 hc0_1
  have HR0_2 := Aside0.mk hr0_2
  have HC0_2 := Aside0.mk hc0_2
  clear hr0_2 hc0_2
  have HR1_1 := Aside0.mk hr1_1
  have HC1_1 := Aside0.mk hc1_1
  clear hr1_1 hc1_1
  have HR1_2 := Aside0.mk hr1_2
  have HC1_2 := Aside0.mk hc1_2
  clear hr1_2 hc1_2
  have HB := Aside0.mk (Below.refl w.heap.size w)
  have H : (if a0_0 = a1_0 then (if a0_3.toList = a1_3.toList then (if a0_4 = a1_4 then (if (l0_1.length : Int) = (l1_1.length : Int) then (sapwoodref04_Same.j0 k ((l0_2.length : Int) != (l1_2.length : Int)) a0_0 l0_1 l0_2 a0_3 a0_4 a1_0 l1_1 l1_2 a1_3 a1_4) else (sapwoodref04_Same.j0 k true a0_0 l0_1 l0_2 a0_3 a0_4 a1_0 l1_1 l1_2 a1_3 a1_4)) else (sapwoodref04_Same.j0 k true a0_0 l0_1 l0_2 a0_3 a0_4 a1_0 l1_1 l1_2 a1_3 a1_4)) else (sapwoodref04_Same.j0 k true a0_0 l0_1 l0_2 a0_3 a0_4 a1_0 l1_1 l1_2 a1_3 a1_4)) else (sapwoodref04_Same.j0 k true a0_0 l0_1 l0_2 a0_3 a0_4 a1_0 l1_1 l1_2 a1_3 a1_4)) = some r := h
  clear h
  have HC3 := Aside0.mk H
  clear H
  go_enter Try.func11, Try.ntmps11
  go_upto_region 1 with (first | ((with_reducible refine gate_dst (N := 2) rfl ?_); (try (refine gate_guard (by rfl) ?_; dsimp only)); refine box_event ?hg (N := 2) ?hd (cs := #[.int .i64 a0_0, .slice A0_1 l0_1.length c0_1, .slice A0_2 l0_2.length c0_2, .string a0_3, .int .i64 a0_4]) (t := 35) ?hr ?_; (case hd => rfl); (case hg => rfl); (case hr => first | (go_simp; done) | (go_simp; rfl)); intro gb329 hg w4 hbox hb; have n0_ := Aside0.mk (below_step (by repeat (first | (with_reducible first | exact HB.out | apply below_alloc | apply pw_below_drewN | apply below_drew1) | exact HB.out)) hb); have n1_ := Aside0.mk (hbox); have n2_ := Aside0.mk ((by rw [hg]; exact (below_size (by repeat (first | (with_reducible first | exact HB.out | apply below_alloc | apply pw_below_drewN | apply below_drew1) | exact HB.out))) : w.heap.size ≤ gb329)); have n3_ := n2_; clear HB; have HB := n0_; have BK329 := n1_; have GW329 := n2_; have GE329 := n3_; clear n0_ n1_ n2_ n3_; clear hb hbox hg) | ((with_reducible refine gate_dst (N := 3) rfl ?_); (try (refine gate_guard (by rfl) ?_; dsimp only)); refine box_event ?hg (N := 3) ?hd (cs := #[.int .i64 a1_0, .slice A1_1 l1_1.length c1_1, .slice A1_2 l1_2.length c1_2, .string a1_3, .int .i64 a1_4]) (t := 35) ?hr ?_; (case hd => rfl); (case hg => rfl); (case hr => first | (go_simp; done) | (go_simp; rfl)); intro gb330 hg w5 hbox hb; have n0_ := Aside0.mk (blk_below (g := gb329) (o := .cells #[.int .i64 a0_0, .slice A0_1 l0_1.length c0_1, .slice A0_2 l0_2.length c0_2, .string a0_3, .int .i64 a0_4] 35 (0, 0)) (by (with_reducible repeat (first | refine blk_drewN ?_ _ | refine blk_drew ?_ | refine blk_alloc ?_ _)); exact BK329.out) hb); have n1_ := Aside0.mk (below_step (by repeat (first | (with_reducible first | exact HB.out | apply below_alloc | apply pw_below_drewN | apply below_drew1 | refine below_set ?_ GE329.out) | exact HB.out)) hb); have n2_ := Aside0.mk (hbox); have n3_ := Aside0.mk ((by rw [hg]; exact (below_size (by repeat (first | (with_reducible first | exact HB.out | apply below_alloc | apply pw_below_drewN | apply below_drew1 | refine below_set ?_ GE329.out) | exact HB.out))) : w.heap.size ≤ gb330)); have n4_ := n3_; have n5_ := Aside0.mk ((by rw [hg]; exact Nat.ne_of_lt (blk_lt (g := gb329) (o := .cells #[.int .i64 a0_0, .slice A0_1 l0_1.length c0_1, .slice A0_2 l0_2.length c0_2, .string a0_3, .int .i64 a0_4] 35 (0, 0)) (by (with_reducible repeat (first | refine blk_drewN ?_ _ | refine blk_drew ?_ | refine blk_alloc ?_ _)); exact BK329.out)) : gb329 ≠ gb330)); have n6_ := Aside0.mk ((by rw [hg]; exact Nat.ne_of_gt (blk_lt (g := gb329) (o := .cells #[.int .i64 a0_0, .slice A0_1 l0_1.length c0_1, .slice A0_2 l0_2.length c0_2, .string a0_3, .int .i64 a0_4] 35 (0, 0)) (by (with_reducible repeat (first | refine blk_drewN ?_ _ | refine blk_drew ?_ | refine blk_alloc ?_ _)); exact BK329.out)) : gb330 ≠ gb329)); clear BK329; clear HB; have BK329 := n0_; have HB := n1_; have BK330 := n2_; have GW330 := n3_; have GE330 := n4_; have NB329_330 := n5_; have NB330_329 := n6_; clear n0_ n1_ n2_ n3_ n4_ n5_ n6_; clear hb hbox hg))
  repeat (go_quiet (first | ((with_reducible refine gate_dst (N := 2) rfl ?_); (try (refine gate_guard (by rfl) ?_; dsimp only)); refine box_event ?hg (N := 2) ?hd (cs := #[.int .i64 a0_0, .slice A0_1 l0_1.length c0_1, .slice A0_2 l0_2.length c0_2, .string a0_3, .int .i64 a0_4]) (t := 35) ?hr ?_; (case hd => rfl); (case hg => rfl); (case hr => first | (go_simp; done) | (go_simp; rfl)); intro gb329 hg w4 hbox hb; have n0_ := Aside0.mk (below_step (by repeat (first | (with_reducible first | exact HB.out | apply below_alloc | apply pw_below_drewN | apply below_drew1) | exact HB.out)) hb); have n1_ := Aside0.mk (hbox); have n2_ := Aside0.mk ((by rw [hg]; exact (below_size (by repeat (first | (with_reducible first | exact HB.out | apply below_alloc | apply pw_below_drewN | apply below_drew1) | exact HB.out))) : w.heap.size ≤ gb329)); have n3_ := n2_; clear HB; have HB := n0_; have BK329 := n1_; have GW329 := n2_; have GE329 := n3_; clear n0_ n1_ n2_ n3_; clear hb hbox hg) | ((with_reducible refine gate_dst (N := 3) rfl ?_); (try (refine gate_guard (by rfl) ?_; dsimp only)); refine box_event ?hg (N := 3) ?hd (cs := #[.int .i64 a1_0, .slice A1_1 l1_1.length c1_1, .slice A1_2 l1_2.length c1_2, .string a1_3, .int .i64 a1_4]) (t := 35) ?hr ?_; (case hd => rfl); (case hg => rfl); (case hr => first | (go_simp; done) | (go_simp; rfl)); intro gb330 hg w5 hbox hb; have n0_ := Aside0.mk (blk_below (g := gb329) (o := .cells #[.int .i64 a0_0, .slice A0_1 l0_1.length c0_1, .slice A0_2 l0_2.length c0_2, .string a0_3, .int .i64 a0_4] 35 (0, 0)) (by (with_reducible repeat (first | refine blk_drewN ?_ _ | refine blk_drew ?_ | refine blk_alloc ?_ _)); exact BK329.out) hb); have n1_ := Aside0.mk (below_step (by repeat (first | (with_reducible first | exact HB.out | apply below_alloc | apply pw_below_drewN | apply below_drew1 | refine below_set ?_ GE329.out) | exact HB.out)) hb); have n2_ := Aside0.mk (hbox); have n3_ := Aside0.mk ((by rw [hg]; exact (below_size (by repeat (first | (with_reducible first | exact HB.out | apply below_alloc | apply pw_below_drewN | apply below_drew1 | refine below_set ?_ GE329.out) | exact HB.out))) : w.heap.size ≤ gb330)); have n4_ := n3_; have n5_ := Aside0.mk ((by rw [hg]; exact Nat.ne_of_lt (blk_lt (g := gb329) (o := .cells #[.int .i64 a0_0, .slice A0_1 l0_1.length c0_1, .slice A0_2 l0_2.length c0_2, .string a0_3, .int .i64 a0_4] 35 (0, 0)) (by (with_reducible repeat (first | refine blk_drewN ?_ _ | refine blk_drew ?_ | refine blk_alloc ?_ _)); exact BK329.out)) : gb329 ≠ gb330)); have n6_ := Aside0.mk ((by rw [hg]; exact Nat.ne_of_gt (blk_lt (g := gb329) (o := .cells #[.int .i64 a0_0, .slice A0_1 l0_1.length c0_1, .slice A0_2 l0_2.length c0_2, .string a0_3, .int .i64 a0_4] 35 (0, 0)) (by (with_reducible repeat (first | refine blk_drewN ?_ _ | refine blk_drew ?_ | refine blk_alloc ?_ _)); exact BK329.out)) : gb330 ≠ gb329)); clear BK329; clear HB; have BK329 := n0_; have HB := n1_; have BK330 := n2_; have GW330 := n3_; have GE330 := n4_; have NB329_330 := n5_; have NB330_329 := n6_; clear n0_ n1_ n2_ n3_ n4_ n5_ n6_; clear hb hbox hg)); go_upto_region 1 with (first | ((with_reducible refine gate_dst (N := 2) rfl ?_); (try (refine gate_guard (by rfl) ?_; dsimp only)); refine box_event ?hg (N := 2) ?hd (cs := #[.int .i64 a0_0, .slice A0_1 l0_1.length c0_1, .slice A0_2 l0_2.length c0_2, .string a0_3, .int .i64 a0_4]) (t := 35) ?hr ?_; (case hd => rfl); (case hg => rfl); (case hr => first | (go_simp; done) | (go_simp; rfl)); intro gb329 hg w4 hbox hb; have n0_ := Aside0.mk (below_step (by repeat (first | (with_reducible first | exact HB.out | apply below_alloc | apply pw_below_drewN | apply below_drew1) | exact HB.out)) hb); have n1_ := Aside0.mk (hbox); have n2_ := Aside0.mk ((by rw [hg]; exact (below_size (by repeat (first | (with_reducible first | exact HB.out | apply below_alloc | apply pw_below_drewN | apply below_drew1) | exact HB.out))) : w.heap.size ≤ gb329)); have n3_ := n2_; clear HB; have HB := n0_; have BK329 := n1_; have GW329 := n2_; have GE329 := n3_; clear n0_ n1_ n2_ n3_; clear hb hbox hg) | ((with_reducible refine gate_dst (N := 3) rfl ?_); (try (refine gate_guard (by rfl) ?_; dsimp only)); refine box_event ?hg (N := 3) ?hd (cs := #[.int .i64 a1_0, .slice A1_1 l1_1.length c1_1, .slice A1_2 l1_2.length c1_2, .string a1_3, .int .i64 a1_4]) (t := 35) ?hr ?_; (case hd => rfl); (case hg => rfl); (case hr => first | (go_simp; done) | (go_simp; rfl)); intro gb330 hg w5 hbox hb; have n0_ := Aside0.mk (blk_below (g := gb329) (o := .cells #[.int .i64 a0_0, .slice A0_1 l0_1.length c0_1, .slice A0_2 l0_2.length c0_2, .string a0_3, .int .i64 a0_4] 35 (0, 0)) (by (with_reducible repeat (first | refine blk_drewN ?_ _ | refine blk_drew ?_ | refine blk_alloc ?_ _)); exact BK329.out) hb); have n1_ := Aside0.mk (below_step (by repeat (first | (with_reducible first | exact HB.out | apply below_alloc | apply pw_below_drewN | apply below_drew1 | refine below_set ?_ GE329.out) | exact HB.out)) hb); have n2_ := Aside0.mk (hbox); have n3_ := Aside0.mk ((by rw [hg]; exact (below_size (by repeat (first | (with_reducible first | exact HB.out | apply below_alloc | apply pw_below_drewN | apply below_drew1 | refine below_set ?_ GE329.out) | exact HB.out))) : w.heap.size ≤ gb330)); have n4_ := n3_; have n5_ := Aside0.mk ((by rw [hg]; exact Nat.ne_of_lt (blk_lt (g := gb329) (o := .cells #[.int .i64 a0_0, .slice A0_1 l0_1.length c0_1, .slice A0_2 l0_2.length c0_2, .string a0_3, .int .i64 a0_4] 35 (0, 0)) (by (with_reducible repeat (first | refine blk_drewN ?_ _ | refine blk_drew ?_ | refine blk_alloc ?_ _)); exact BK329.out)) : gb329 ≠ gb330)); have n6_ := Aside0.mk ((by rw [hg]; exact Nat.ne_of_gt (blk_lt (g := gb329) (o := .cells #[.int .i64 a0_0, .slice A0_1 l0_1.length c0_1, .slice A0_2 l0_2.length c0_2, .string a0_3, .int .i64 a0_4] 35 (0, 0)) (by (with_reducible repeat (first | refine blk_drewN ?_ _ | refine blk_drew ?_ | refine blk_alloc ?_ _)); exact BK329.out)) : gb330 ≠ gb329)); clear BK329; clear HB; have BK329 := n0_; have HB := n1_; have BK330 := n2_; have GW330 := n3_; have GE330 := n4_; have NB329_330 := n5_; have NB330_329 := n6_; clear n0_ n1_ n2_ n3_ n4_ n5_ n6_; clear hb hbox hg)))
  (try simp only [Act.put, List.setIfInBounds_toArray, List.set_cons_zero, List.set_cons_succ])
  go_cut [43] (fun v43 wc => ∃ (kq : Nat) (x43_2 : Bool), v43 = .bool x43_2 ∧ Aside0 (sapwoodref04_Same.j0 kq x43_2 a0_0 l0_1 l0_2 a0_3 a0_4 a1_0 l1_1 l1_2 a1_3 a1_4 = some r) ∧ Aside0 (kq ≤ k) ∧ Aside0 (wc.heap[gb329]? = some (.cells #[.int .i64 a0_0, (.slice A0_1 l0_1.length c0_1), (.slice A0_2 l0_2.length c0_2), .string a0_3, .int .i64 a0_4] 35 (0, 0))) ∧ Aside0 (wc.heap[gb330]? = some (.cells #[.int .i64 a1_0, (.slice A1_1 l1_1.length c1_1), (.slice A1_2 l1_2.length c1_2), .string a1_3, .int .i64 a1_4] 35 (0, 0))) ∧ Aside0 (Below w.heap.size w wc))
  case first =>
    have H := HC3.out
    clear HC3
    by_cases c6 : a0_0 = a1_0
    rotate_left
    · rw [if_neg c6] at H
      have c6b0 : (a0_0 == a1_0) = false := beq_eq_false_iff_ne.mpr c6
      have c6b1 : (a0_0 != a1_0) = true := bne_iff_ne.mpr c6
      (first | rw [c6b0] | (simp only [i64_w, i32_w]; rw [c6b0]) | skip)
      have H' := Aside0.mk H
      clear H
      have hnb22 := NB329_330.out
      have hnc22 := NB330_329.out
      have hcz23_0 : w5.cell? ⟨gb329, 0, none⟩ = some (.int .i64 a0_0) := (blk_cell BK329.out 0).trans rfl
      have hcz23_1 : w5.cell? ⟨gb329, 1, none⟩ = some (.slice A0_1 l0_1.length c0_1) := (blk_cell BK329.out 1).trans rfl
      have hcz23_2 : w5.cell? ⟨gb329, 2, none⟩ = some (.slice A0_2 l0_2.length c0_2) := (blk_cell BK329.out 2).trans rfl
      have hcz23_3 : w5.cell? ⟨gb329, 3, none⟩ = some (.string a0_3) := (blk_cell BK329.out 3).trans rfl
      have hcz23_4 : w5.cell? ⟨gb329, 4, none⟩ = some (.int .i64 a0_4) := (blk_cell BK329.out 4).trans rfl
      have hfz23_0 := blk_frozen BK329.out 0
      have hfz23_1 := blk_frozen BK329.out 1
      have hfz23_2 := blk_frozen BK329.out 2
      have hfz23_3 := blk_frozen BK329.out 3
      have hfz23_4 := blk_frozen BK329.out 4
      have hcz24_0 : w5.cell? ⟨gb330, 0, none⟩ = some (.int .i64 a1_0) := (blk_cell BK330.out 0).trans rfl
      have hcz24_1 : w5.cell? ⟨gb330, 1, none⟩ = some (.slice A1_1 l1_1.length c1_1) := (blk_cell BK330.out 1).trans rfl
      have hcz24_2 : w5.cell? ⟨gb330, 2, none⟩ = some (.slice A1_2 l1_2.length c1_2) := (blk_cell BK330.out 2).trans rfl
      have hcz24_3 : w5.cell? ⟨gb330, 3, none⟩ = some (.string a1_3) := (blk_cell BK330.out 3).trans rfl
      have hcz24_4 : w5.cell? ⟨gb330, 4, none⟩ = some (.int .i64 a1_4) := (blk_cell BK330.out 4).trans rfl
      have hfz24_0 := blk_frozen BK330.out 0
      have hfz24_1 := blk_frozen BK330.out 1
      have hfz24_2 := blk_frozen BK330.out 2
      have hfz24_3 := blk_frozen BK330.out 3
      have hfz24_4 := blk_frozen BK330.out 4
      go_wp2
      repeat (go_quiet (fail); try go_wp2)
      go_meet
      case rel => exact ⟨_, (true), (by first | rfl | (simp; done) | (simp [*]; done)), H', ⟨by first | omega | exact Nat.le_refl _⟩, ⟨by (with_reducible repeat (first | refine blk_drewN ?_ _ | refine blk_drew ?_ | refine blk_alloc ?_ _)); exact BK329.out⟩, ⟨by (with_reducible repeat (first | refine blk_drewN ?_ _ | refine blk_drew ?_ | refine blk_alloc ?_ _)); exact BK330.out⟩, ⟨by repeat (first | (with_reducible first | exact HB.out | apply below_alloc | apply pw_below_drewN | apply below_drew1 | refine below_set ?_ GE329.out | refine below_set ?_ GE330.out) | exact HB.out)⟩⟩
    rw [if_pos c6] at H
    have c6b0 : (a0_0 == a1_0) = true := beq_iff_eq.mpr c6
    have c6b1 : (a0_0 != a1_0) = false := bne_eq_false_iff_eq.mpr c6
    clear c6
    (first | rw [c6b0] | (simp only [i64_w, i32_w]; rw [c6b0]) | skip)
    by_cases c7 : a0_3.toList = a1_3.toList
    rotate_left
    · rw [if_neg c7] at H
      have c7b0 : (a0_3.toList == a1_3.toList) = false := beq_eq_false_iff_ne.mpr c7
      have c7b1 : (a0_3.toList != a1_3.toList) = true := bne_iff_ne.mpr c7
      have H' := Aside0.mk H
      clear H
      have hnb19 := NB329_330.out
      have hnc19 := NB330_329.out
      have hcz20_0 : w5.cell? ⟨gb329, 0, none⟩ = some (.int .i64 a0_0) := (blk_cell BK329.out 0).trans rfl
      have hcz20_1 : w5.cell? ⟨gb329, 1, none⟩ = some (.slice A0_1 l0_1.length c0_1) := (blk_cell BK329.out 1).trans rfl
      have hcz20_2 : w5.cell? ⟨gb329, 2, none⟩ = some (.slice A0_2 l0_2.length c0_2) := (blk_cell BK329.out 2).trans rfl
      have hcz20_3 : w5.cell? ⟨gb329, 3, none⟩ = some (.string a0_3) := (blk_cell BK329.out 3).trans rfl
      have hcz20_4 : w5.cell? ⟨gb329, 4, none⟩ = some (.int .i64 a0_4) := (blk_cell BK329.out 4).trans rfl
      have hfz20_0 := blk_frozen BK329.out 0
      have hfz20_1 := blk_frozen BK329.out 1
      have hfz20_2 := blk_frozen BK329.out 2
      have hfz20_3 := blk_frozen BK329.out 3
      have hfz20_4 := blk_frozen BK329.out 4
      have hcz21_0 : w5.cell? ⟨gb330, 0, none⟩ = some (.int .i64 a1_0) := (blk_cell BK330.out 0).trans rfl
      have hcz21_1 : w5.cell? ⟨gb330, 1, none⟩ = some (.slice A1_1 l1_1.length c1_1) := (blk_cell BK330.out 1).trans rfl
      have hcz21_2 : w5.cell? ⟨gb330, 2, none⟩ = some (.slice A1_2 l1_2.length c1_2) := (blk_cell BK330.out 2).trans rfl
      have hcz21_3 : w5.cell? ⟨gb330, 3, none⟩ = some (.string a1_3) := (blk_cell BK330.out 3).trans rfl
      have hcz21_4 : w5.cell? ⟨gb330, 4, none⟩ = some (.int .i64 a1_4) := (blk_cell BK330.out 4).trans rfl
      have hfz21_0 := blk_frozen BK330.out 0
      have hfz21_1 := blk_frozen BK330.out 1
      have hfz21_2 := blk_frozen BK330.out 2
      have hfz21_3 := blk_frozen BK330.out 3
      have hfz21_4 := blk_frozen BK330.out 4
      go_wp2
      repeat (go_quiet (fail); try go_wp2)
      go_meet
      case rel => exact ⟨_, (true), (by first | rfl | (simp; done) | (simp [*]; done)), H', ⟨by first | omega | exact Nat.le_refl _⟩, ⟨by (with_reducible repeat (first | refine blk_drewN ?_ _ | refine blk_drew ?_ | refine blk_alloc ?_ _)); exact BK329.out⟩, ⟨by (with_reducible repeat (first | refine blk_drewN ?_ _ | refine blk_drew ?_ | refine blk_alloc ?_ _)); exact BK330.out⟩, ⟨by repeat (first | (with_reducible first | exact HB.out | apply below_alloc | apply pw_below_drewN | apply below_drew1 | refine below_set ?_ GE329.out | refine below_set ?_ GE330.out) | exact HB.out)⟩⟩
    rw [if_pos c7] at H
    have c7b0 : (a0_3.toList == a1_3.toList) = true := beq_iff_eq.mpr c7
    have c7b1 : (a0_3.toList != a1_3.toList) = false := bne_eq_false_iff_eq.mpr c7
    clear c7
    by_cases c8 : a0_4 = a1_4
    rotate_left
    · rw [if_neg c8] at H
      have c8b0 : (a0_4 == a1_4) = false := beq_eq_false_iff_ne.mpr c8
      have c8b1 : (a0_4 != a1_4) = true := bne_iff_ne.mpr c8
      have H' := Aside0.mk H
      clear H
      have hnb16 := NB329_330.out
      have hnc16 := NB330_329.out
      have hcz17_0 : w5.cell? ⟨gb329, 0, none⟩ = some (.int .i64 a0_0) := (blk_cell BK329.out 0).trans rfl
      have hcz17_1 : w5.cell? ⟨gb329, 1, none⟩ = some (.slice A0_1 l0_1.length c0_1) := (blk_cell BK329.out 1).trans rfl
      have hcz17_2 : w5.cell? ⟨gb329, 2, none⟩ = some (.slice A0_2 l0_2.length c0_2) := (blk_cell BK329.out 2).trans rfl
      have hcz17_3 : w5.cell? ⟨gb329, 3, none⟩ = some (.string a0_3) := (blk_cell BK329.out 3).trans rfl
      have hcz17_4 : w5.cell? ⟨gb329, 4, none⟩ = some (.int .i64 a0_4) := (blk_cell BK329.out 4).trans rfl
      have hfz17_0 := blk_frozen BK329.out 0
      have hfz17_1 := blk_frozen BK329.out 1
      have hfz17_2 := blk_frozen BK329.out 2
      have hfz17_3 := blk_frozen BK329.out 3
      have hfz17_4 := blk_frozen BK329.out 4
      have hcz18_0 : w5.cell? ⟨gb330, 0, none⟩ = some (.int .i64 a1_0) := (blk_cell BK330.out 0).trans rfl
      have hcz18_1 : w5.cell? ⟨gb330, 1, none⟩ = some (.slice A1_1 l1_1.length c1_1) := (blk_cell BK330.out 1).trans rfl
      have hcz18_2 : w5.cell? ⟨gb330, 2, none⟩ = some (.slice A1_2 l1_2.length c1_2) := (blk_cell BK330.out 2).trans rfl
      have hcz18_3 : w5.cell? ⟨gb330, 3, none⟩ = some (.string a1_3) := (blk_cell BK330.out 3).trans rfl
      have hcz18_4 : w5.cell? ⟨gb330, 4, none⟩ = some (.int .i64 a1_4) := (blk_cell BK330.out 4).trans rfl
      have hfz18_0 := blk_frozen BK330.out 0
      have hfz18_1 := blk_frozen BK330.out 1
      have hfz18_2 := blk_frozen BK330.out 2
      have hfz18_3 := blk_frozen BK330.out 3
      have hfz18_4 := blk_frozen BK330.out 4
      go_wp2
      repeat (go_quiet (fail); try go_wp2)
      go_meet
      case rel => exact ⟨_, (true), (by first | rfl | (simp; done) | (simp [*]; done)), H', ⟨by first | omega | exact Nat.le_refl _⟩, ⟨by (with_reducible repeat (first | refine blk_drewN ?_ _ | refine blk_drew ?_ | refine blk_alloc ?_ _)); exact BK329.out⟩, ⟨by (with_reducible repeat (first | refine blk_drewN ?_ _ | refine blk_drew ?_ | refine blk_alloc ?_ _)); exact BK330.out⟩, ⟨by repeat (first | (with_reducible first | exact HB.out | apply below_alloc | apply pw_below_drewN | apply below_drew1 | refine below_set ?_ GE329.out | refine below_set ?_ GE330.out) | exact HB.out)⟩⟩
    rw [if_pos c8] at H
    have c8b0 : (a0_4 == a1_4) = true := beq_iff_eq.mpr c8
    have c8b1 : (a0_4 != a1_4) = false := bne_eq_false_iff_eq.mpr c8
    clear c8
    by_cases c9 : (l0_1.length : Int) = (l1_1.length : Int)
    rotate_left
    · rw [if_neg c9] at H
      have c9b0 : ((l0_1.length : Int) == (l1_1.length : Int)) = false := beq_eq_false_iff_ne.mpr c9
      have c9b1 : ((l0_1.length : Int) != (l1_1.length : Int)) = true := bne_iff_ne.mpr c9
      have c9b2 : (l0_1.length == l1_1.length) = false := by first | simpa using c9 | (simp at c9 ⊢; omega)
      have H' := Aside0.mk H
      clear H
      have hnb13 := NB329_330.out
      have hnc13 := NB330_329.out
      have hcz14_0 : w5.cell? ⟨gb329, 0, none⟩ = some (.int .i64 a0_0) := (blk_cell BK329.out 0).trans rfl
      have hcz14_1 : w5.cell? ⟨gb329, 1, none⟩ = some (.slice A0_1 l0_1.length c0_1) := (blk_cell BK329.out 1).trans rfl
      have hcz14_2 : w5.cell? ⟨gb329, 2, none⟩ = some (.slice A0_2 l0_2.length c0_2) := (blk_cell BK329.out 2).trans rfl
      have hcz14_3 : w5.cell? ⟨gb329, 3, none⟩ = some (.string a0_3) := (blk_cell BK329.out 3).trans rfl
      have hcz14_4 : w5.cell? ⟨gb329, 4, none⟩ = some (.int .i64 a0_4) := (blk_cell BK329.out 4).trans rfl
      have hfz14_0 := blk_frozen BK329.out 0
      have hfz14_1 := blk_frozen BK329.out 1
      have hfz14_2 := blk_frozen BK329.out 2
      have hfz14_3 := blk_frozen BK329.out 3
      have hfz14_4 := blk_frozen BK329.out 4
      have hcz15_0 : w5.cell? ⟨gb330, 0, none⟩ = some (.int .i64 a1_0) := (blk_cell BK330.out 0).trans rfl
      have hcz15_1 : w5.cell? ⟨gb330, 1, none⟩ = some (.slice A1_1 l1_1.length c1_1) := (blk_cell BK330.out 1).trans rfl
      have hcz15_2 : w5.cell? ⟨gb330, 2, none⟩ = some (.slice A1_2 l1_2.length c1_2) := (blk_cell BK330.out 2).trans rfl
      have hcz15_3 : w5.cell? ⟨gb330, 3, none⟩ = some (.string a1_3) := (blk_cell BK330.out 3).trans rfl
      have hcz15_4 : w5.cell? ⟨gb330, 4, none⟩ = some (.int .i64 a1_4) := (blk_cell BK330.out 4).trans rfl
      have hfz15_0 := blk_frozen BK330.out 0
      have hfz15_1 := blk_frozen BK330.out 1
      have hfz15_2 := blk_frozen BK330.out 2
      have hfz15_3 := blk_frozen BK330.out 3
      have hfz15_4 := blk_frozen BK330.out 4
      go_wp2
      repeat (go_quiet (fail); try go_wp2)
      go_meet
      case rel => exact ⟨_, (true), (by first | rfl | (simp; done) | (simp [*]; done)), H', ⟨by first | omega | exact Nat.le_refl _⟩, ⟨by (with_reducible repeat (first | refine blk_drewN ?_ _ | refine blk_drew ?_ | refine blk_alloc ?_ _)); exact BK329.out⟩, ⟨by (with_reducible repeat (first | refine blk_drewN ?_ _ | refine blk_drew ?_ | refine blk_alloc ?_ _)); exact BK330.out⟩, ⟨by repeat (first | (with_reducible first | exact HB.out | apply below_alloc | apply pw_below_drewN | apply below_drew1 | refine below_set ?_ GE329.out | refine below_set ?_ GE330.out) | exact HB.out)⟩⟩
    rw [if_pos c9] at H
    have c9b0 : ((l0_1.length : Int) == (l1_1.length : Int)) = true := beq_iff_eq.mpr c9
    have c9b1 : ((l0_1.length : Int) != (l1_1.length : Int)) = false := bne_eq_false_iff_eq.mpr c9
    have c9b2 : (l0_1.length == l1_1.length) = true := by first | simpa using c9 | (simp at c9 ⊢; omega)
    clear c9
    have H' := Aside0.mk H
    clear H
    have hnb10 := NB329_330.out
    have hnc10 := NB330_329.out
    have hcz11_0 : w5.cell? ⟨gb329, 0, none⟩ = some (.int .i64 a0_0) := (blk_cell BK329.out 0).trans rfl
    have hcz11_1 : w5.cell? ⟨gb329, 1, none⟩ = some (.slice A0_1 l0_1.length c0_1) := (blk_cell BK329.out 1).trans rfl
    have hcz11_2 : w5.cell? ⟨gb329, 2, none⟩ = some (.slice A0_2 l0_2.length c0_2) := (blk_cell BK329.out 2).trans rfl
    have hcz11_3 : w5.cell? ⟨gb329, 3, none⟩ = some (.string a0_3) := (blk_cell BK329.out 3).trans rfl
    have hcz11_4 : w5.cell? ⟨gb329, 4, none⟩ = some (.int .i64 a0_4) := (blk_cell BK329.out 4).trans rfl
    have hfz11_0 := blk_frozen BK329.out 0
    have hfz11_1 := blk_frozen BK329.out 1
    have hfz11_2 := blk_frozen BK329.out 2
    have hfz11_3 := blk_frozen BK329.out 3
    have hfz11_4 := blk_frozen BK329.out 4
    have hcz12_0 : w5.cell? ⟨gb330, 0, none⟩ = some (.int .i64 a1_0) := (blk_cell BK330.out 0).trans rfl
    have hcz12_1 : w5.cell? ⟨gb330, 1, none⟩ = some (.slice A1_1 l1_1.length c1_1) := (blk_cell BK330.out 1).trans rfl
    have hcz12_2 : w5.cell? ⟨gb330, 2, none⟩ = some (.slice A1_2 l1_2.length c1_2) := (blk_cell BK330.out 2).trans rfl
    have hcz12_3 : w5.cell? ⟨gb330, 3, none⟩ = some (.string a1_3) := (blk_cell BK330.out 3).trans rfl
    have hcz12_4 : w5.cell? ⟨gb330, 4, none⟩ = some (.int .i64 a1_4) := (blk_cell BK330.out 4).trans rfl
    have hfz12_0 := blk_frozen BK330.out 0
    have hfz12_1 := blk_frozen BK330.out 1
    have hfz12_2 := blk_frozen BK330.out 2
    have hfz12_3 := blk_frozen BK330.out 3
    have hfz12_4 := blk_frozen BK330.out 4
    go_wp2
    repeat (go_quiet (fail); try go_wp2)
    go_meet
    case rel => exact ⟨_, (((l0_2.length : Int) != (l1_2.length : Int))), (by first | rfl | (simp; done) | (simp [*]; done)), H', ⟨by first | omega | exact Nat.le_refl _⟩, ⟨by (with_reducible repeat (first | refine blk_drewN ?_ _ | refine blk_drew ?_ | refine blk_alloc ?_ _)); exact BK329.out⟩, ⟨by (with_reducible repeat (first | refine blk_drewN ?_ _ | refine blk_drew ?_ | refine blk_alloc ?_ _)); exact BK330.out⟩, ⟨by repeat (first | (with_reducible first | exact HB.out | apply below_alloc | apply pw_below_drewN | apply below_drew1 | refine below_set ?_ GE329.out | refine below_set ?_ GE330.out) | exact HB.out)⟩⟩
  case rest =>
    clear HC3
    try clear c1
    try clear c2
    try clear p2
    try clear c6
    try clear c6b0
    try clear c6b1
    try clear c7
    try clear c7b0
    try clear c7b1
    try clear c8
    try clear c8b0
    try clear c8b1
    try clear c9
    try clear c9b0
    try clear c9b1
    try clear c9b2
    try clear c10
    try clear c11
    try clear c13
    try clear c16
    try clear c19
    try clear c22
    try clear hcz11_0
    try clear hcz11_1
    try clear hcz11_2
    try clear hcz11_3
    try clear hcz11_4
    try clear hcz12_0
    try clear hcz12_1
    try clear hcz12_2
    try clear hcz12_3
    try clear hcz12_4
    try clear hcz14_0
    try clear hcz14_1
    try clear hcz14_2
    try clear hcz14_3
    try clear hcz14_4
    try clear hcz15_0
    try clear hcz15_1
    try clear hcz15_2
    try clear hcz15_3
    try clear hcz15_4
    try clear hcz17_0
    try clear hcz17_1
    try clear hcz17_2
    try clear hcz17_3
    try clear hcz17_4
    try clear hcz18_0
    try clear hcz18_1
    try clear hcz18_2
    try clear hcz18_3
    try clear hcz18_4
    try clear hcz20_0
    try clear hcz20_1
    try clear hcz20_2
    try clear hcz20_3
    try clear hcz20_4
    try clear hcz21_0
    try clear hcz21_1
    try clear hcz21_2
    try clear hcz21_3
    try clear hcz21_4
    try clear hcz23_0
    try clear hcz23_1
    try clear hcz23_2
    try clear hcz23_3
    try clear hcz23_4
    try clear hcz24_0
    try clear hcz24_1
    try clear hcz24_2
    try clear hcz24_3
    try clear hcz24_4
    try clear hfz11_0
    try clear hfz11_1
    try clear hfz11_2
    try clear hfz11_3
    try clear hfz11_4
    try clear hfz12_0
    try clear hfz12_1
    try clear hfz12_2
    try clear hfz12_3
    try clear hfz12_4
    try clear hfz14_0
    try clear hfz14_1
    try clear hfz14_2
    try clear hfz14_3
    try clear hfz14_4
    try clear hfz15_0
    try clear hfz15_1
    try clear hfz15_2
    try clear hfz15_3
    try clear hfz15_4
    try clear hfz17_0
    try clear hfz17_1
    try clear hfz17_2
    try clear hfz17_3
    try clear hfz17_4
    try clear hfz18_0
    try clear hfz18_1
    try clear hfz18_2
    try clear hfz18_3
    try clear hfz18_4
    try clear hfz20_0
    try clear hfz20_1
    try clear hfz20_2
    try clear hfz20_3
    try clear hfz20_4
    try clear hfz21_0
    try clear hfz21_1
    try clear hfz21_2
    try clear hfz21_3
    try clear hfz21_4
    try clear hfz23_0
    try clear hfz23_1
    try clear hfz23_2
    try clear hfz23_3
    try clear hfz23_4
    try clear hfz24_0
    try clear hfz24_1
    try clear hfz24_2
    try clear hfz24_3
    try clear hfz24_4
    obtain ⟨kq, x43_2, rfl, HA, HJ2, BK329, BK330, HB⟩ := hcut
    cases kq with
    | zero => exact absurd HA.out (by simp [sapwoodref04_Same.j0])
    | succ kj2 =>
      have H := HA.out
      clear HA
      simp only [sapwoodref04_Same.j0] at H
      by_cases c25 : x43_2 = true
      · subst c25
        have H1 : (some false) = some r := by rw [if_pos rfl] at H; exact H
        clear H
        have H := H1
        clear H1
        obtain rfl := Option.some.inj H
        go_wp2
        repeat (go_quiet (fail); try go_wp2)
        go_ret
        exact ⟨by first | rfl | (simp [errW_none, errW_some] <;> rfl) | (simp [*, errW_none, errW_some] <;> rfl), by repeat (first | (with_reducible first | exact HB.out | apply below_alloc | apply pw_below_drewN | apply below_drew1 | refine below_set ?_ GE329.out | refine below_set ?_ GE330.out) | exact HB.out)⟩
      replace c25 := Bool.eq_false_iff.mpr c25
      subst c25
      have H1 : (sapwoodref04_Same.l0 kj2 (l0_1.length : Int) 0 a0_0 l0_1 l0_2 a0_3 a0_4 a1_0 l1_1 l1_2 a1_3 a1_4) = some r := by rw [if_neg (show ¬ (false = true) by decide)] at H; exact H
      clear H
      have H := H1
      clear H1
      have H' := Aside0.mk H
      clear H
      have hnb26 := NB329_330.out
      have hnc26 := NB330_329.out
      have hcz27_0 : wc.cell? ⟨gb329, 0, none⟩ = some (.int .i64 a0_0) := (blk_cell BK329.out 0).trans rfl
      have hcz27_1 : wc.cell? ⟨gb329, 1, none⟩ = some (.slice A0_1 l0_1.length c0_1) := (blk_cell BK329.out 1).trans rfl
      have hcz27_2 : wc.cell? ⟨gb329, 2, none⟩ = some (.slice A0_2 l0_2.length c0_2) := (blk_cell BK329.out 2).trans rfl
      have hcz27_3 : wc.cell? ⟨gb329, 3, none⟩ = some (.string a0_3) := (blk_cell BK329.out 3).trans rfl
      have hcz27_4 : wc.cell? ⟨gb329, 4, none⟩ = some (.int .i64 a0_4) := (blk_cell BK329.out 4).trans rfl
      have hfz27_0 := blk_frozen BK329.out 0
      have hfz27_1 := blk_frozen BK329.out 1
      have hfz27_2 := blk_frozen BK329.out 2
      have hfz27_3 := blk_frozen BK329.out 3
      have hfz27_4 := blk_frozen BK329.out 4
      go_wp2
      repeat (go_quiet (fail); try go_wp2)
      go_loopg [47] kj2 (fun kq v47 w' => ∃ (x47_2 : Int), v47 = .int .i64 x47_2 ∧ Aside0 (sapwoodref04_Same.l0 kq (l0_1.length : Int) x47_2 a0_0 l0_1 l0_2 a0_3 a0_4 a1_0 l1_1 l1_2 a1_3 a1_4 = some r) ∧ Aside0 (kq ≤ kj2) ∧ Aside0 (w'.heap[gb329]? = some (.cells #[.int .i64 a0_0, (.slice A0_1 l0_1.length c0_1), (.slice A0_2 l0_2.length c0_2), .string a0_3, .int .i64 a0_4] 35 (0, 0))) ∧ Aside0 (w'.heap[gb330]? = some (.cells #[.int .i64 a1_0, (.slice A1_1 l1_1.length c1_1), (.slice A1_2 l1_2.length c1_2), .string a1_3, .int .i64 a1_4] 35 (0, 0))) ∧ Aside0 (Below w.heap.size w w'))
      case atStart => exact ⟨(0), (by first | rfl | (simp; done) | (simp [*]; done)), H', ⟨Nat.le_refl _⟩, ⟨by (with_reducible repeat (first | refine blk_drewN ?_ _ | refine blk_drew ?_ | refine blk_alloc ?_ _)); exact BK329.out⟩, ⟨by (with_reducible repeat (first | refine blk_drewN ?_ _ | refine blk_drew ?_ | refine blk_alloc ?_ _)); exact BK330.out⟩, ⟨by repeat (first | (with_reducible first | exact HB.out | apply below_alloc | apply pw_below_drewN | apply below_drew1 | refine below_set ?_ GE329.out | refine below_set ?_ GE330.out) | exact HB.out)⟩⟩
      case round =>
        clear H'
        try clear c1
        try clear c2
        try clear p2
        try clear c6
        try clear c6b0
        try clear c6b1
        try clear c7
        try clear c7b0
        try clear c7b1
        try clear c8
        try clear c8b0
        try clear c8b1
        try clear c9
        try clear c9b0
        try clear c9b1
        try clear c9b2
        try clear c10
        try clear c11
        try clear c13
        try clear c16
        try clear c19
        try clear c22
        try clear c25
        try clear c26
        try clear hcz11_0
        try clear hcz11_1
        try clear hcz11_2
        try clear hcz11_3
        try clear hcz11_4
        try clear hcz12_0
        try clear hcz12_1
        try clear hcz12_2
        try clear hcz12_3
        try clear hcz12_4
        try clear hcz14_0
        try clear hcz14_1
        try clear hcz14_2
        try clear hcz14_3
        try clear hcz14_4
        try clear hcz15_0
        try clear hcz15_1
        try clear hcz15_2
        try clear hcz15_3
        try clear hcz15_4
        try clear hcz17_0
        try clear hcz17_1
        try clear hcz17_2
        try clear hcz17_3
        try clear hcz17_4
        try clear hcz18_0
        try clear hcz18_1
        try clear hcz18_2
        try clear hcz18_3
        try clear hcz18_4
        try clear hcz20_0
        try clear hcz20_1
        try clear hcz20_2
        try clear hcz20_3
        try clear hcz20_4
        try clear hcz21_0
        try clear hcz21_1
        try clear hcz21_2
        try clear hcz21_3
        try clear hcz21_4
        try clear hcz23_0
        try clear hcz23_1
        try clear hcz23_2
        try clear hcz23_3
        try clear hcz23_4
        try clear hcz24_0
        try clear hcz24_1
        try clear hcz24_2
        try clear hcz24_3
        try clear hcz24_4
        try clear hcz27_0
        try clear hcz27_1
        try clear hcz27_2
        try clear hcz27_3
        try clear hcz27_4
        try clear hfz11_0
        try clear hfz11_1
        try clear hfz11_2
        try clear hfz11_3
        try clear hfz11_4
        try clear hfz12_0
        try clear hfz12_1
        try clear hfz12_2
        try clear hfz12_3
        try clear hfz12_4
        try clear hfz14_0
        try clear hfz14_1
        try clear hfz14_2
        try clear hfz14_3
        try clear hfz14_4
        try clear hfz15_0
        try clear hfz15_1
        try clear hfz15_2
        try clear hfz15_3
        try clear hfz15_4
        try clear hfz17_0
        try clear hfz17_1
        try clear hfz17_2
        try clear hfz17_3
        try clear hfz17_4
        try clear hfz18_0
        try clear hfz18_1
        try clear hfz18_2
        try clear hfz18_3
        try clear hfz18_4
        try clear hfz20_0
        try clear hfz20_1
        try clear hfz20_2
        try clear hfz20_3
        try clear hfz20_4
        try clear hfz21_0
        try clear hfz21_1
        try clear hfz21_2
        try clear hfz21_3
        try clear hfz21_4
        try clear hfz23_0
        try clear hfz23_1
        try clear hfz23_2
        try clear hfz23_3
        try clear hfz23_4
        try clear hfz24_0
        try clear hfz24_1
        try clear hfz24_2
        try clear hfz24_3
        try clear hfz24_4
        try clear hfz27_0
        try clear hfz27_1
        try clear hfz27_2
        try clear hfz27_3
        try clear hfz27_4
        try clear p2
        obtain ⟨x47_2, rfl, HA, HK2, BK329, BK330, HB⟩ := hrel
        cases gk with
        | zero => exact absurd HA.out (by simp [sapwoodref04_Same.l0])
        | succ k2 =>
          have H := HA.out
          clear HA
          simp only [sapwoodref04_Same.l0] at H
          by_cases c28 : x47_2 < (l0_1.length : Int)
          · rw [if_pos c28] at H
            have c28b0 := decide_eq_true c28
            clear c28
            by_cases c29 : 0 ≤ x47_2
            rotate_left
            · rw [if_neg c29] at H
              exact absurd H (by simp)
            rw [if_pos c29] at H
            have c29b0 := decide_eq_true c29
            clear c29
            by_cases c30 : x47_2 < (l0_1.length : Int)
            rotate_left
            · rw [if_neg c30] at H
              exact absurd H (by simp)
            rw [if_pos c30] at H
            have c30b0 := decide_eq_true c30
            clear c30
            by_cases c31 : x47_2 < (l1_1.length : Int)
            rotate_left
            · rw [if_neg c31] at H
              exact absurd H (by simp)
            rw [if_pos c31] at H
            have c31b0 := decide_eq_true c31
            clear c31
            by_cases c32 : (!((((rd_T64 l0_1 x47_2).f0).toList) == (((rd_T64 l1_1 x47_2).f0).toList)) || (!((((rd_T64 l0_1 x47_2).f1).toList) == (((rd_T64 l1_1 x47_2).f1).toList)) || (!(((rd_T64 l0_1 x47_2).f2) == ((rd_T64 l1_1 x47_2).f2)) || (!(((rd_T64 l0_1 x47_2).f3) == ((rd_T64 l1_1 x47_2).f3)))))) = true
            · rw [if_pos c32] at H
              have c32b0 : (!((((rd_T64 l0_1 x47_2).f0).toList) == (((rd_T64 l1_1 x47_2).f0).toList)) || (!((((rd_T64 l0_1 x47_2).f1).toList) == (((rd_T64 l1_1 x47_2).f1).toList)) || (!(((rd_T64 l0_1 x47_2).f2) == ((rd_T64 l1_1 x47_2).f2)) || (!(((rd_T64 l0_1 x47_2).f3) == ((rd_T64 l1_1 x47_2).f3)))))) = true := c32
              clear c32
              obtain rfl := Option.some.inj H
              have hnb33 := NB329_330.out
              have hnc33 := NB330_329.out
              have hcz34_0 : wr.cell? ⟨gb329, 0, none⟩ = some (.int .i64 a0_0) := (blk_cell BK329.out 0).trans rfl
              have hcz34_1 : wr.cell? ⟨gb329, 1, none⟩ = some (.slice A0_1 l0_1.length c0_1) := (blk_cell BK329.out 1).trans rfl
              have hcz34_2 : wr.cell? ⟨gb329, 2, none⟩ = some (.slice A0_2 l0_2.length c0_2) := (blk_cell BK329.out 2).trans rfl
              have hcz34_3 : wr.cell? ⟨gb329, 3, none⟩ = some (.string a0_3) := (blk_cell BK329.out 3).trans rfl
              have hcz34_4 : wr.cell? ⟨gb329, 4, none⟩ = some (.int .i64 a0_4) := (blk_cell BK329.out 4).trans rfl
              have hfz34_0 := blk_frozen BK329.out 0
              have hfz34_1 := blk_frozen BK329.out 1
              have hfz34_2 := blk_frozen BK329.out 2
              have hfz34_3 := blk_frozen BK329.out 3
              have hfz34_4 := blk_frozen BK329.out 4
              have p331 : 0 ≤ (x47_2 : Int) := of_decide_eq_true (by first | (with_reducible assumption) | assumption)
              have q331 : x47_2 < (l0_1.length : Int) := of_decide_eq_true (by first | (with_reducible assumption) | assumption)
              obtain ⟨ad331, e331, hx331_0, hx331_1, hx331_2, hx331_3⟩ := at_T64 HR0_1.out x47_2 p331 q331
              cases e331
              replace hx331_0 := (HB.out.cell (World.block_lt_of_cell? w _ hx331_0)).trans hx331_0
              replace hx331_1 := (HB.out.cell (World.block_lt_of_cell? w _ hx331_1)).trans hx331_1
              replace hx331_2 := (HB.out.cell (World.block_lt_of_cell? w _ hx331_2)).trans hx331_2
              replace hx331_3 := (HB.out.cell (World.block_lt_of_cell? w _ hx331_3)).trans hx331_3
              replace p331 := eq_true p331
              replace q331 := eq_true q331
              have hcz35_0 : wr.cell? ⟨gb330, 0, none⟩ = some (.int .i64 a1_0) := (blk_cell BK330.out 0).trans rfl
              have hcz35_1 : wr.cell? ⟨gb330, 1, none⟩ = some (.slice A1_1 l1_1.length c1_1) := (blk_cell BK330.out 1).trans rfl
              have hcz35_2 : wr.cell? ⟨gb330, 2, none⟩ = some (.slice A1_2 l1_2.length c1_2) := (blk_cell BK330.out 2).trans rfl
              have hcz35_3 : wr.cell? ⟨gb330, 3, none⟩ = some (.string a1_3) := (blk_cell BK330.out 3).trans rfl
              have hcz35_4 : wr.cell? ⟨gb330, 4, none⟩ = some (.int .i64 a1_4) := (blk_cell BK330.out 4).trans rfl
              have hfz35_0 := blk_frozen BK330.out 0
              have hfz35_1 := blk_frozen BK330.out 1
              have hfz35_2 := blk_frozen BK330.out 2
              have hfz35_3 := blk_frozen BK330.out 3
              have hfz35_4 := blk_frozen BK330.out 4
              have p332 : 0 ≤ (x47_2 : Int) := of_decide_eq_true (by first | (with_reducible assumption) | assumption)
              have q332 : x47_2 < (l1_1.length : Int) := of_decide_eq_true (by first | (with_reducible assumption) | assumption)
              obtain ⟨ad332, e332, hx332_0, hx332_1, hx332_2, hx332_3⟩ := at_T64 HR1_1.out x47_2 p332 q332
              cases e332
              replace hx332_0 := (HB.out.cell (World.block_lt_of_cell? w _ hx332_0)).trans hx332_0
              replace hx332_1 := (HB.out.cell (World.block_lt_of_cell? w _ hx332_1)).trans hx332_1
              replace hx332_2 := (HB.out.cell (World.block_lt_of_cell? w _ hx332_2)).trans hx332_2
              replace hx332_3 := (HB.out.cell (World.block_lt_of_cell? w _ hx332_3)).trans hx332_3
              replace p332 := eq_true p332
              replace q332 := eq_true q332
              go_wp2
              repeat (go_quiet (fail); try go_wp2)
              go_ret
              exact ⟨by first | rfl | (simp [errW_none, errW_some] <;> rfl) | (simp [*, errW_none, errW_some] <;> rfl), by repeat (first | (with_reducible first | exact HB.out | apply below_alloc | apply pw_below_drewN | apply below_drew1 | refine below_set ?_ GE329.out | refine below_set ?_ GE330.out) | exact HB.out)⟩
            rw [if_neg c32] at H
            have c32b0 : (!((((rd_T64 l0_1 x47_2).f0).toList) == (((rd_T64 l1_1 x47_2).f0).toList)) || (!((((rd_T64 l0_1 x47_2).f1).toList) == (((rd_T64 l1_1 x47_2).f1).toList)) || (!(((rd_T64 l0_1 x47_2).f2) == ((rd_T64 l1_1 x47_2).f2)) || (!(((rd_T64 l0_1 x47_2).f3) == ((rd_T64 l1_1 x47_2).f3)))))) = false := by simpa using c32
            clear c32
            have H' := Aside0.mk H
            clear H
            have hnb36 := NB329_330.out
            have hnc36 := NB330_329.out
            have hcz37_0 : wr.cell? ⟨gb329, 0, none⟩ = some (.int .i64 a0_0) := (blk_cell BK329.out 0).trans rfl
            have hcz37_1 : wr.cell? ⟨gb329, 1, none⟩ = some (.slice A0_1 l0_1.length c0_1) := (blk_cell BK329.out 1).trans rfl
            have hcz37_2 : wr.cell? ⟨gb329, 2, none⟩ = some (.slice A0_2 l0_2.length c0_2) := (blk_cell BK329.out 2).trans rfl
            have hcz37_3 : wr.cell? ⟨gb329, 3, none⟩ = some (.string a0_3) := (blk_cell BK329.out 3).trans rfl
            have hcz37_4 : wr.cell? ⟨gb329, 4, none⟩ = some (.int .i64 a0_4) := (blk_cell BK329.out 4).trans rfl
            have hfz37_0 := blk_frozen BK329.out 0
            have hfz37_1 := blk_frozen BK329.out 1
            have hfz37_2 := blk_frozen BK329.out 2
            have hfz37_3 := blk_frozen BK329.out 3
            have hfz37_4 := blk_frozen BK329.out 4
            have p331 : 0 ≤ (x47_2 : Int) := of_decide_eq_true (by first | (with_reducible assumption) | assumption)
            have q331 : x47_2 < (l0_1.length : Int) := of_decide_eq_true (by first | (with_reducible assumption) | assumption)
            obtain ⟨ad331, e331, hx331_0, hx331_1, hx331_2, hx331_3⟩ := at_T64 HR0_1.out x47_2 p331 q331
            cases e331
            replace hx331_0 := (HB.out.cell (World.block_lt_of_cell? w _ hx331_0)).trans hx331_0
            replace hx331_1 := (HB.out.cell (World.block_lt_of_cell? w _ hx331_1)).trans hx331_1
            replace hx331_2 := (HB.out.cell (World.block_lt_of_cell? w _ hx331_2)).trans hx331_2
            replace hx331_3 := (HB.out.cell (World.block_lt_of_cell? w _ hx331_3)).trans hx331_3
            replace p331 := eq_true p331
            replace q331 := eq_true q331
            have hcz38_0 : wr.cell? ⟨gb330, 0, none⟩ = some (.int .i64 a1_0) := (blk_cell BK330.out 0).trans rfl
            have hcz38_1 : wr.cell? ⟨gb330, 1, none⟩ = some (.slice A1_1 l1_1.length c1_1) := (blk_cell BK330.out 1).trans rfl
            have hcz38_2 : wr.cell? ⟨gb330, 2, none⟩ = some (.slice A1_2 l1_2.length c1_2) := (blk_cell BK330.out 2).trans rfl
            have hcz38_3 : wr.cell? ⟨gb330, 3, none⟩ = some (.string a1_3) := (blk_cell BK330.out 3).trans rfl
            have hcz38_4 : wr.cell? ⟨gb330, 4, none⟩ = some (.int .i64 a1_4) := (blk_cell BK330.out 4).trans rfl
            have hfz38_0 := blk_frozen BK330.out 0
            have hfz38_1 := blk_frozen BK330.out 1
            have hfz38_2 := blk_frozen BK330.out 2
            have hfz38_3 := blk_frozen BK330.out 3
            have hfz38_4 := blk_frozen BK330.out 4
            have p332 : 0 ≤ (x47_2 : Int) := of_decide_eq_true (by first | (with_reducible assumption) | assumption)
            have q332 : x47_2 < (l1_1.length : Int) := of_decide_eq_true (by first | (with_reducible assumption) | assumption)
            obtain ⟨ad332, e332, hx332_0, hx332_1, hx332_2, hx332_3⟩ := at_T64 HR1_1.out x47_2 p332 q332
            cases e332
            replace hx332_0 := (HB.out.cell (World.block_lt_of_cell? w _ hx332_0)).trans hx332_0
            replace hx332_1 := (HB.out.cell (World.block_lt_of_cell? w _ hx332_1)).trans hx332_1
            replace hx332_2 := (HB.out.cell (World.block_lt_of_cell? w _ hx332_2)).trans hx332_2
            replace hx332_3 := (HB.out.cell (World.block_lt_of_cell? w _ hx332_3)).trans hx332_3
            replace p332 := eq_true p332
            replace q332 := eq_true q332
            go_wp2
            repeat (go_quiet (fail); try go_wp2)
            go_roundg k2
            case measure => have := HJ2.out; have := HK2.out; omega
            case rel => exact ⟨(wrap64 (x47_2 + 1)), (by first | rfl | (simp; done) | (simp [*]; done)), H', ⟨by have := HJ2.out; have := HK2.out; omega⟩, ⟨by (with_reducible repeat (first | refine blk_drewN ?_ _ | refine blk_drew ?_ | refine blk_alloc ?_ _)); exact BK329.out⟩, ⟨by (with_reducible repeat (first | refine blk_drewN ?_ _ | refine blk_drew ?_ | refine blk_alloc ?_ _)); exact BK330.out⟩, ⟨by repeat (first | (with_reducible first | exact HB.out | apply below_alloc | apply pw_below_drewN | apply below_drew1 | refine below_set ?_ GE329.out | refine below_set ?_ GE330.out) | exact HB.out)⟩⟩
          rw [if_neg c28] at H
          have c28b0 : decide (x47_2 < (l0_1.length : Int)) = false := decide_eq_false c28
          clear c28
          have H' := Aside0.mk H
          clear H
          have hnb39 := NB329_330.out
          have hnc39 := NB330_329.out
          have hcz40_0 : wr.cell? ⟨gb329, 0, none⟩ = some (.int .i64 a0_0) := (blk_cell BK329.out 0).trans rfl
          have hcz40_1 : wr.cell? ⟨gb329, 1, none⟩ = some (.slice A0_1 l0_1.length c0_1) := (blk_cell BK329.out 1).trans rfl
          have hcz40_2 : wr.cell? ⟨gb329, 2, none⟩ = some (.slice A0_2 l0_2.length c0_2) := (blk_cell BK329.out 2).trans rfl
          have hcz40_3 : wr.cell? ⟨gb329, 3, none⟩ = some (.string a0_3) := (blk_cell BK329.out 3).trans rfl
          have hcz40_4 : wr.cell? ⟨gb329, 4, none⟩ = some (.int .i64 a0_4) := (blk_cell BK329.out 4).trans rfl
          have hfz40_0 := blk_frozen BK329.out 0
          have hfz40_1 := blk_frozen BK329.out 1
          have hfz40_2 := blk_frozen BK329.out 2
          have hfz40_3 := blk_frozen BK329.out 3
          have hfz40_4 := blk_frozen BK329.out 4
          go_wp2
          repeat (go_quiet (fail); try go_wp2)
          go_loopg [65] k2 (fun kq v65 w' => ∃ (x65_3 : Int), v65 = .int .i64 x65_3 ∧ Aside0 (sapwoodref04_Same.l1 kq (l0_2.length : Int) x65_3 a0_0 l0_1 l0_2 a0_3 a0_4 a1_0 l1_1 l1_2 a1_3 a1_4 = some r) ∧ Aside0 (kq ≤ k2) ∧ Aside0 (w'.heap[gb329]? = some (.cells #[.int .i64 a0_0, (.slice A0_1 l0_1.length c0_1), (.slice A0_2 l0_2.length c0_2), .string a0_3, .int .i64 a0_4] 35 (0, 0))) ∧ Aside0 (w'.heap[gb330]? = some (.cells #[.int .i64 a1_0, (.slice A1_1 l1_1.length c1_1), (.slice A1_2 l1_2.length c1_2), .string a1_3, .int .i64 a1_4] 35 (0, 0))) ∧ Aside0 (Below w.heap.size w w'))
          case atStart => exact ⟨(0), (by first | rfl | (simp; done) | (simp [*]; done)), H', ⟨Nat.le_refl _⟩, ⟨by (with_reducible repeat (first | refine blk_drewN ?_ _ | refine blk_drew ?_ | refine blk_alloc ?_ _)); exact BK329.out⟩, ⟨by (with_reducible repeat (first | refine blk_drewN ?_ _ | refine blk_drew ?_ | refine blk_alloc ?_ _)); exact BK330.out⟩, ⟨by repeat (first | (with_reducible first | exact HB.out | apply below_alloc | apply pw_below_drewN | apply below_drew1 | refine below_set ?_ GE329.out | refine below_set ?_ GE330.out) | exact HB.out)⟩⟩
          case round =>
            clear H'
            try clear c1
            try clear c2
            try clear p2
            try clear c3
            try clear p3
            try clear q3
            try clear hx3
            try clear c6
            try clear c6b0
            try clear c6b1
            try clear p6
            try clear c7
            try clear c7b0
            try clear c7b1
            try clear c8
            try clear c8b0
            try clear c8b1
            try clear c9
            try clear c9b0
            try clear c9b1
            try clear c9b2
            try clear c10
            try clear c11
            try clear c13
            try clear c16
            try clear c19
            try clear c22
            try clear c25
            try clear c26
            try clear c28
            try clear c28b0
            try clear c29
            try clear c29b0
            try clear c30
            try clear c30b0
            try clear c31
            try clear c31b0
            try clear c32
            try clear c32b0
            try clear c33
            try clear p33
            try clear q33
            try clear hx33
            try clear c36
            try clear c39
            try clear hcz11_0
            try clear hcz11_1
            try clear hcz11_2
            try clear hcz11_3
            try clear hcz11_4
            try clear hcz12_0
            try clear hcz12_1
            try clear hcz12_2
            try clear hcz12_3
            try clear hcz12_4
            try clear hcz14_0
            try clear hcz14_1
            try clear hcz14_2
            try clear hcz14_3
            try clear hcz14_4
            try clear hcz15_0
            try clear hcz15_1
            try clear hcz15_2
            try clear hcz15_3
            try clear hcz15_4
            try clear hcz17_0
            try clear hcz17_1
            try clear hcz17_2
            try clear hcz17_3
            try clear hcz17_4
            try clear hcz18_0
            try clear hcz18_1
            try clear hcz18_2
            try clear hcz18_3
            try clear hcz18_4
            try clear hcz20_0
            try clear hcz20_1
            try clear hcz20_2
            try clear hcz20_3
            try clear hcz20_4
            try clear hcz21_0
            try clear hcz21_1
            try clear hcz21_2
            try clear hcz21_3
            try clear hcz21_4
            try clear hcz23_0
            try clear hcz23_1
            try clear hcz23_2
            try clear hcz23_3
            try clear hcz23_4
            try clear hcz24_0
            try clear hcz24_1
            try clear hcz24_2
            try clear hcz24_3
            try clear hcz24_4
            try clear hcz27_0
            try clear hcz27_1
            try clear hcz27_2
            try clear hcz27_3
            try clear hcz27_4
            try clear hcz34_0
            try clear hcz34_1
            try clear hcz34_2
            try clear hcz34_3
            try clear hcz34_4
            try clear hcz35_0
            try clear hcz35_1
            try clear hcz35_2
            try clear hcz35_3
            try clear hcz35_4
            try clear hcz37_0
            try clear hcz37_1
            try clear hcz37_2
            try clear hcz37_3
            try clear hcz37_4
            try clear hcz38_0
            try clear hcz38_1
            try clear hcz38_2
            try clear hcz38_3
            try clear hcz38_4
            try clear hcz40_0
            try clear hcz40_1
            try clear hcz40_2
            try clear hcz40_3
            try clear hcz40_4
            try clear hfz11_0
            try clear hfz11_1
            try clear hfz11_2
            try clear hfz11_3
            try clear hfz11_4
            try clear hfz12_0
            try clear hfz12_1
            try clear hfz12_2
            try clear hfz12_3
            try clear hfz12_4
            try clear hfz14_0
            try clear hfz14_1
            try clear hfz14_2
            try clear hfz14_3
            try clear hfz14_4
            try clear hfz15_0
            try clear hfz15_1
            try clear hfz15_2
            try clear hfz15_3
            try clear hfz15_4
            try clear hfz17_0
            try clear hfz17_1
            try clear hfz17_2
            try clear hfz17_3
            try clear hfz17_4
            try clear hfz18_0
            try clear hfz18_1
            try clear hfz18_2
            try clear hfz18_3
            try clear hfz18_4
            try clear hfz20_0
            try clear hfz20_1
            try clear hfz20_2
            try clear hfz20_3
            try clear hfz20_4
            try clear hfz21_0
            try clear hfz21_1
            try clear hfz21_2
            try clear hfz21_3
            try clear hfz21_4
            try clear hfz23_0
            try clear hfz23_1
            try clear hfz23_2
            try clear hfz23_3
            try clear hfz23_4
            try clear hfz24_0
            try clear hfz24_1
            try clear hfz24_2
            try clear hfz24_3
            try clear hfz24_4
            try clear hfz27_0
            try clear hfz27_1
            try clear hfz27_2
            try clear hfz27_3
            try clear hfz27_4
            try clear hfz34_0
            try clear hfz34_1
            try clear hfz34_2
            try clear hfz34_3
            try clear hfz34_4
            try clear hfz35_0
            try clear hfz35_1
            try clear hfz35_2
            try clear hfz35_3
            try clear hfz35_4
            try clear hfz37_0
            try clear hfz37_1
            try clear hfz37_2
            try clear hfz37_3
            try clear hfz37_4
            try clear hfz38_0
            try clear hfz38_1
            try clear hfz38_2
            try clear hfz38_3
            try clear hfz38_4
            try clear hfz40_0
            try clear hfz40_1
            try clear hfz40_2
            try clear hfz40_3
            try clear hfz40_4
            try clear hx331_0
            try clear hx331_1
            try clear hx331_2
            try clear hx331_3
            try clear hx332_0
            try clear hx332_1
            try clear hx332_2
            try clear hx332_3
            try clear p2
            try clear p331
            try clear p332
            try clear q331
            try clear q332
            obtain ⟨x65_3, rfl, HA, HK3, BK329, BK330, HB⟩ := hrel
            cases gk with
            | zero => exact absurd HA.out (by simp [sapwoodref04_Same.l1])
            | succ k3 =>
              have H := HA.out
              clear HA
              simp only [sapwoodref04_Same.l1] at H
              by_cases c41 : x65_3 < (l0_2.length : Int)
              rotate_left
              · rw [if_neg c41] at H
                have c41b0 : decide (x65_3 < (l0_2.length : Int)) = false := decide_eq_false c41
                clear c41
                obtain rfl := Option.some.inj H
                go_wp2
                repeat (go_quiet (fail); try go_wp2)
                go_ret
                exact ⟨by first | rfl | (simp [errW_none, errW_some] <;> rfl) | (simp [*, errW_none, errW_some] <;> rfl), by repeat (first | (with_reducible first | exact HB.out | apply below_alloc | apply pw_below_drewN | apply below_drew1 | refine below_set ?_ GE329.out | refine below_set ?_ GE330.out) | exact HB.out)⟩
              rw [if_pos c41] at H
              have c41b0 := decide_eq_true c41
              clear c41
              by_cases c42 : 0 ≤ x65_3
              rotate_left
              · rw [if_neg c42] at H
                exact absurd H (by simp)
              rw [if_pos c42] at H
              have c42b0 := decide_eq_true c42
              clear c42
              by_cases c43 : x65_3 < (l0_2.length : Int)
              rotate_left
              · rw [if_neg c43] at H
                exact absurd H (by simp)
              rw [if_pos c43] at H
              have c43b0 := decide_eq_true c43
              clear c43
              by_cases c44 : x65_3 < (l1_2.length : Int)
              rotate_left
              · rw [if_neg c44] at H
                exact absurd H (by simp)
              rw [if_pos c44] at H
              have c44b0 := decide_eq_true c44
              clear c44
              by_cases c45 : (!((((rd_T65 l0_2 x65_3).f0).toList) == (((rd_T65 l1_2 x65_3).f0).toList)) || (!(((rd_T65 l0_2 x65_3).f1) == ((rd_T65 l1_2 x65_3).f1)))) = true
              · rw [if_pos c45] at H
                have c45b0 : (!((((rd_T65 l0_2 x65_3).f0).toList) == (((rd_T65 l1_2 x65_3).f0).toList)) || (!(((rd_T65 l0_2 x65_3).f1) == ((rd_T65 l1_2 x65_3).f1)))) = true := c45
                clear c45
                obtain rfl := Option.some.inj H
                have hnb46 := NB329_330.out
                have hnc46 := NB330_329.out
                have hcz47_0 : wr.cell? ⟨gb329, 0, none⟩ = some (.int .i64 a0_0) := (blk_cell BK329.out 0).trans rfl
                have hcz47_1 : wr.cell? ⟨gb329, 1, none⟩ = some (.slice A0_1 l0_1.length c0_1) := (blk_cell BK329.out 1).trans rfl
                have hcz47_2 : wr.cell? ⟨gb329, 2, none⟩ = some (.slice A0_2 l0_2.length c0_2) := (blk_cell BK329.out 2).trans rfl
                have hcz47_3 : wr.cell? ⟨gb329, 3, none⟩ = some (.string a0_3) := (blk_cell BK329.out 3).trans rfl
                have hcz47_4 : wr.cell? ⟨gb329, 4, none⟩ = some (.int .i64 a0_4) := (blk_cell BK329.out 4).trans rfl
                have hfz47_0 := blk_frozen BK329.out 0
                have hfz47_1 := blk_frozen BK329.out 1
                have hfz47_2 := blk_frozen BK329.out 2
                have hfz47_3 := blk_frozen BK329.out 3
                have hfz47_4 := blk_frozen BK329.out 4
                have p333 : 0 ≤ (x65_3 : Int) := of_decide_eq_true (by first | (with_reducible assumption) | assumption)
                have q333 : x65_3 < (l0_2.length : Int) := of_decide_eq_true (by first | (with_reducible assumption) | assumption)
                obtain ⟨ad333, e333, hx333_0, hx333_1⟩ := at_T65 HR0_2.out x65_3 p333 q333
                cases e333
                replace hx333_0 := (HB.out.cell (World.block_lt_of_cell? w _ hx333_0)).trans hx333_0
                replace hx333_1 := (HB.out.cell (World.block_lt_of_cell? w _ hx333_1)).trans hx333_1
                replace p333 := eq_true p333
                replace q333 := eq_true q333
                have hcz48_0 : wr.cell? ⟨gb330, 0, none⟩ = some (.int .i64 a1_0) := (blk_cell BK330.out 0).trans rfl
                have hcz48_1 : wr.cell? ⟨gb330, 1, none⟩ = some (.slice A1_1 l1_1.length c1_1) := (blk_cell BK330.out 1).trans rfl
                have hcz48_2 : wr.cell? ⟨gb330, 2, none⟩ = some (.slice A1_2 l1_2.length c1_2) := (blk_cell BK330.out 2).trans rfl
                have hcz48_3 : wr.cell? ⟨gb330, 3, none⟩ = some (.string a1_3) := (blk_cell BK330.out 3).trans rfl
                have hcz48_4 : wr.cell? ⟨gb330, 4, none⟩ = some (.int .i64 a1_4) := (blk_cell BK330.out 4).trans rfl
                have hfz48_0 := blk_frozen BK330.out 0
                have hfz48_1 := blk_frozen BK330.out 1
                have hfz48_2 := blk_frozen BK330.out 2
                have hfz48_3 := blk_frozen BK330.out 3
                have hfz48_4 := blk_frozen BK330.out 4
                have p334 : 0 ≤ (x65_3 : Int) := of_decide_eq_true (by first | (with_reducible assumption) | assumption)
                have q334 : x65_3 < (l1_2.length : Int) := of_decide_eq_true (by first | (with_reducible assumption) | assumption)
                obtain ⟨ad334, e334, hx334_0, hx334_1⟩ := at_T65 HR1_2.out x65_3 p334 q334
                cases e334
                replace hx334_0 := (HB.out.cell (World.block_lt_of_cell? w _ hx334_0)).trans hx334_0
                replace hx334_1 := (HB.out.cell (World.block_lt_of_cell? w _ hx334_1)).trans hx334_1
                replace p334 := eq_true p334
                replace q334 := eq_true q334
                go_wp2
                repeat (go_quiet (fail); try go_wp2)
                go_ret
                exact ⟨by first | rfl | (simp [errW_none, errW_some] <;> rfl) | (simp [*, errW_none, errW_some] <;> rfl), by repeat (first | (with_reducible first | exact HB.out | apply below_alloc | apply pw_below_drewN | apply below_drew1 | refine below_set ?_ GE329.out | refine below_set ?_ GE330.out) | exact HB.out)⟩
              rw [if_neg c45] at H
              have c45b0 : (!((((rd_T65 l0_2 x65_3).f0).toList) == (((rd_T65 l1_2 x65_3).f0).toList)) || (!(((rd_T65 l0_2 x65_3).f1) == ((rd_T65 l1_2 x65_3).f1)))) = false := by simpa using c45
              clear c45
              have H' := Aside0.mk H
              clear H
              have hnb49 := NB329_330.out
              have hnc49 := NB330_329.out
              have hcz50_0 : wr.cell? ⟨gb329, 0, none⟩ = some (.int .i64 a0_0) := (blk_cell BK329.out 0).trans rfl
              have hcz50_1 : wr.cell? ⟨gb329, 1, none⟩ = some (.slice A0_1 l0_1.length c0_1) := (blk_cell BK329.out 1).trans rfl
              have hcz50_2 : wr.cell? ⟨gb329, 2, none⟩ = some (.slice A0_2 l0_2.length c0_2) := (blk_cell BK329.out 2).trans rfl
              have hcz50_3 : wr.cell? ⟨gb329, 3, none⟩ = some (.string a0_3) := (blk_cell BK329.out 3).trans rfl
              have hcz50_4 : wr.cell? ⟨gb329, 4, none⟩ = some (.int .i64 a0_4) := (blk_cell BK329.out 4).trans rfl
              have hfz50_0 := blk_frozen BK329.out 0
              have hfz50_1 := blk_frozen BK329.out 1
              have hfz50_2 := blk_frozen BK329.out 2
              have hfz50_3 := blk_frozen BK329.out 3
              have hfz50_4 := blk_frozen BK329.out 4
              have p333 : 0 ≤ (x65_3 : Int) := of_decide_eq_true (by first | (with_reducible assumption) | assumption)
              have q333 : x65_3 < (l0_2.length : Int) := of_decide_eq_true (by first | (with_reducible assumption) | assumption)
              obtain ⟨ad333, e333, hx333_0, hx333_1⟩ := at_T65 HR0_2.out x65_3 p333 q333
              cases e333
              replace hx333_0 := (HB.out.cell (World.block_lt_of_cell? w _ hx333_0)).trans hx333_0
              replace hx333_1 := (HB.out.cell (World.block_lt_of_cell? w _ hx333_1)).trans hx333_1
              replace p333 := eq_true p333
              replace q333 := eq_true q333
              have hcz51_0 : wr.cell? ⟨gb330, 0, none⟩ = some (.int .i64 a1_0) := (blk_cell BK330.out 0).trans rfl
              have hcz51_1 : wr.cell? ⟨gb330, 1, none⟩ = some (.slice A1_1 l1_1.length c1_1) := (blk_cell BK330.out 1).trans rfl
              have hcz51_2 : wr.cell? ⟨gb330, 2, none⟩ = some (.slice A1_2 l1_2.length c1_2) := (blk_cell BK330.out 2).trans rfl
              have hcz51_3 : wr.cell? ⟨gb330, 3, none⟩ = some (.string a1_3) := (blk_cell BK330.out 3).trans rfl
              have hcz51_4 : wr.cell? ⟨gb330, 4, none⟩ = some (.int .i64 a1_4) := (blk_cell BK330.out 4).trans rfl
              have hfz51_0 := blk_frozen BK330.out 0
              have hfz51_1 := blk_frozen BK330.out 1
              have hfz51_2 := blk_frozen BK330.out 2
              have hfz51_3 := blk_frozen BK330.out 3
              have hfz51_4 := blk_frozen BK330.out 4
              have p334 : 0 ≤ (x65_3 : Int) := of_decide_eq_true (by first | (with_reducible assumption) | assumption)
              have q334 : x65_3 < (l1_2.length : Int) := of_decide_eq_true (by first | (with_reducible assumption) | assumption)
              obtain ⟨ad334, e334, hx334_0, hx334_1⟩ := at_T65 HR1_2.out x65_3 p334 q334
              cases e334
              replace hx334_0 := (HB.out.cell (World.block_lt_of_cell? w _ hx334_0)).trans hx334_0
              replace hx334_1 := (HB.out.cell (World.block_lt_of_cell? w _ hx334_1)).trans hx334_1
              replace p334 := eq_true p334
              replace q334 := eq_true q334
              go_wp2
              repeat (go_quiet (fail); try go_wp2)
              go_roundg k3
              case measure => have := HJ2.out; have := HK2.out; have := HK3.out; omega
              case rel => exact ⟨(wrap64 (x65_3 + 1)), (by first | rfl | (simp; done) | (simp [*]; done)), H', ⟨by have := HJ2.out; have := HK2.out; have := HK3.out; omega⟩, ⟨by (with_reducible repeat (first | refine blk_drewN ?_ _ | refine blk_drew ?_ | refine blk_alloc ?_ _)); exact BK329.out⟩, ⟨by (with_reducible repeat (first | refine blk_drewN ?_ _ | refine blk_drew ?_ | refine blk_alloc ?_ _)); exact BK330.out⟩, ⟨by repeat (first | (with_reducible first | exact HB.out | apply below_alloc | apply pw_below_drewN | apply below_drew1 | refine below_set ?_ GE329.out | refine below_set ?_ GE330.out) | exact HB.out)⟩⟩
end Go.Proofs.Ytgbcfkcnoncgdaa.Sp
