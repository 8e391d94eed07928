import Derived.Test.YtgbcfkcnoncgdaaSp0
import Derived.Test.YtgbcfkcnoncgdaaSp4
import Derived.Test.YtgbcfkcnoncgdaaSp5
namespace Go.Proofs.Ytgbcfkcnoncgdaa.Sp
open Go.Proofs.Ytgbcfkcnoncgdaa.Hand
open Go.RowKit Go.Proofs.YtgbcfkcnoncgdaaW.PrintWords Go.Proofs.YtgbcfkcnoncgdaaW.PrintLast Go.Proofs.YtgbcfkcnoncgdaaW.PrintMore
attribute [local go_sem] max2_int min2_int max_two min_two max_three min_three max_four min_four
set_option linter.unusedVariables false
set_option linter.unusedSimpArgs false
mutual
def page_Encode.l0 : Nat → List Int → List (S57) → Int → Int → Option (List Int × Int)
  | 0, _, _, _, _ => none
  | k + 1, x4, x28, x29, x30 => if x30 < x29 then (if 0 ≤ x30 then (if x30 < (x28.length : Int) then ((page_putCell.f k x4 ((rd_T57 x28 x30).f0) ((rd_T57 x28 x30).f1) ((rd_T57 x28 x30).f2) ((rd_T57 x28 x30).f3)).bind fun t179 => (page_Encode.l0 k t179 x28 x29 (wrap64 (x30 + 1)))) else (none)) else (none)) else (if 0 ≤ (wrap64 (252 - (x4.length : Int))) then (if x4.length + (wrap64 (252 - (x4.length : Int)) : Int).toNat < 140737488355328 then ((sum_Seal.f (x4 ++ List.replicate (wrap64 (252 - (x4.length : Int)) : Int).toNat 0)).bind fun t185 => (some (t185, 0))) else (none)) else (none))
def page_Encode.l1 : Nat → List Int → List (S61) → Int → Int → Option (List Int × Int)
  | 0, _, _, _, _ => none
  | k + 1, x4, x48, x49, x50 => if x50 < x49 then (if 0 ≤ x50 then (if x50 < (x48.length : Int) then ((fix_PutText.f k x4 ((rd_T61 x48 x50).f0)).bind fun t193 => ((fix_Put16.f k t193 ((rd_T61 x48 x50).f1)).bind fun t196 => (page_Encode.l1 k t196 x48 x49 (wrap64 (x50 + 1))))) else (none)) else (none)) else (if 0 ≤ (wrap64 (252 - (x4.length : Int))) then (if x4.length + (wrap64 (252 - (x4.length : Int)) : Int).toNat < 140737488355328 then ((sum_Seal.f (x4 ++ List.replicate (wrap64 (252 - (x4.length : Int)) : Int).toNat 0)).bind fun t202 => (some (t202, 0))) else (none)) else (none))
end
def page_Encode.f (k : Nat) (a0_0 : Int) (l0_1 : List (S57)) (l0_2 : List (S61)) (a0_3 : ByteArray) (a0_4 : Int) : Option (List Int × Int) := (page_Right.f k a0_0 l0_1 l0_2 a0_3 a0_4).bind fun t170 => (if t170 = true then ((some (([(a0_0) % 256] : List Int) : List Int)).bind fun y171 => (if a0_0 = 1 then (if y171.length < 140737488355328 then (page_Encode.l0 k (y171 ++ [((l0_1.length : Int)) % 256]) l0_1 (l0_1.length : Int) 0) else (none)) else (if a0_0 = 2 then (if y171.length < 140737488355328 then (page_Encode.l1 k (y171 ++ [((l0_2.length : Int)) % 256]) l0_2 (l0_2.length : Int) 0) else (none)) else (if a0_0 = 3 then ((fix_PutText.f k y171 a0_3).bind fun t205 => ((fix_Put16.f k t205 a0_4).bind fun t208 => (if 0 ≤ (wrap64 (252 - (t208.length : Int))) then (if t208.length + (wrap64 (252 - (t208.length : Int)) : Int).toNat < 140737488355328 then ((sum_Seal.f (t208 ++ List.replicate (wrap64 (252 - (t208.length : Int)) : Int).toNat 0)).bind fun t214 => (some (t214, 0))) else (none)) else (none)))) else (if 0 ≤ (wrap64 (252 - (y171.length : Int))) then (if y171.length + (wrap64 (252 - (y171.length : Int)) : Int).toNat < 140737488355328 then ((sum_Seal.f (y171 ++ List.replicate (wrap64 (252 - (y171.length : Int)) : Int).toNat 0)).bind fun t220 => (some (t220, 0))) else (none)) else (none)))))) else (some (([] : List Int), 1)))
theorem page_Encode.mono_l : ∀ k, (∀ y0 y1 y2 y3, LeO (page_Encode.l0 k y0 y1 y2 y3) (page_Encode.l0 (k + 1) y0 y1 y2 y3)) ∧ (∀ y0 y1 y2 y3, LeO (page_Encode.l1 k y0 y1 y2 y3) (page_Encode.l1 (k + 1) y0 y1 y2 y3))
  | 0 => ⟨fun _ _ _ _ r h => by simp [page_Encode.l0] at h, fun _ _ _ _ r h => by simp [page_Encode.l1] at h⟩
  | k + 1 => by
    obtain ⟨ih0, ih1⟩ := page_Encode.mono_l k
    refine ⟨?_, ?_⟩
    · intro y0 y1 y2 y3
      unfold page_Encode.l0
      repeat' first
      | (with_reducible exact ih0 _ _ _ _)
      | (with_reducible exact ih1 _ _ _ _)
      | (with_reducible exact fix_Put16.mono _ _ _)
      | (with_reducible exact fix_PutText.mono _ _ _)
      | (with_reducible exact page_Right.mono _ _ _ _ _ _)
      | (with_reducible exact page_putCell.mono _ _ _ _ _ _)
      | (with_reducible exact LeO.refl _)
      | (with_reducible exact LeO.none _)
      | (with_reducible refine LeO.ite ?_ ?_)
      | (with_reducible refine LeO.bind ?_ (fun _ => ?_))
      | exact ih0 _ _ _ _
      | exact ih1 _ _ _ _
      | exact fix_Put16.mono _ _ _
      | exact fix_PutText.mono _ _ _
      | exact page_Right.mono _ _ _ _ _ _
      | exact page_putCell.mono _ _ _ _ _ _
      | exact LeO.none _
      | refine LeO.ite ?_ ?_
      | refine LeO.bind ?_ (fun _ => ?_)
    · intro y0 y1 y2 y3
      unfold page_Encode.l1
      repeat' first
      | (with_reducible exact ih0 _ _ _ _)
      | (with_reducible exact ih1 _ _ _ _)
      | (with_reducible exact fix_Put16.mono _ _ _)
      | (with_reducible exact fix_PutText.mono _ _ _)
      | (with_reducible exact page_Right.mono _ _ _ _ _ _)
      | (with_reducible exact page_putCell.mono _ _ _ _ _ _)
      | (with_reducible exact LeO.refl _)
      | (with_reducible exact LeO.none _)
      | (with_reducible refine LeO.ite ?_ ?_)
      | (with_reducible refine LeO.bind ?_ (fun _ => ?_))
      | exact ih0 _ _ _ _
      | exact ih1 _ _ _ _
      | exact fix_Put16.mono _ _ _
      | exact fix_PutText.mono _ _ _
      | exact page_Right.mono _ _ _ _ _ _
      | exact page_putCell.mono _ _ _ _ _ _
      | exact LeO.none _
      | refine LeO.ite ?_ ?_
      | refine LeO.bind ?_ (fun _ => ?_)
theorem page_Encode.mono : ∀ a0 a1 a2 a3 a4 k, LeO (page_Encode.f k a0 a1 a2 a3 a4) (page_Encode.f (k + 1) a0 a1 a2 a3 a4) := by
  intro a0 a1 a2 a3 a4 k
  obtain ⟨ih0, ih1⟩ := page_Encode.mono_l k
  unfold page_Encode.f
  repeat' first
      | (with_reducible exact ih0 _ _ _ _)
      | (with_reducible exact ih1 _ _ _ _)
      | (with_reducible exact fix_Put16.mono _ _ _)
      | (with_reducible exact fix_PutText.mono _ _ _)
      | (with_reducible exact page_Right.mono _ _ _ _ _ _)
      | (with_reducible exact page_putCell.mono _ _ _ _ _ _)
      | (with_reducible exact LeO.refl _)
      | (with_reducible exact LeO.none _)
      | (with_reducible refine LeO.ite ?_ ?_)
      | (with_reducible refine LeO.bind ?_ (fun _ => ?_))
      | exact ih0 _ _ _ _
      | exact ih1 _ _ _ _
      | exact fix_Put16.mono _ _ _
      | exact fix_PutText.mono _ _ _
      | exact page_Right.mono _ _ _ _ _ _
      | exact page_putCell.mono _ _ _ _ _ _
      | exact LeO.none _
      | refine LeO.ite ?_ ?_
      | refine LeO.bind ?_ (fun _ => ?_)
def page_Encode.T17 : Bool × List (List Nat × List Nat) := (true, [([], []), ([], []), ([1], [1]), ([0, 2], [0, 2]), ([], []), ([4], [4]), ([3, 5, 3], [3, 5]), ([6, 6, 0, 1, 2, 3, 4, 5, 6], [0, 6])])
def page_Encode.B17 : List Nat := [0, 0, 2, 7, 0, 16, 63, 127]
theorem page_Encode.tab17 : rtab .any (opsOf Try.f13 17) = page_Encode.T17 := by kernel_rfl
theorem page_Encode.bits17 : waitsOk page_Encode.T17.2 page_Encode.B17 = true := by kernel_rfl
def page_Encode.T20 : Bool × List (List Nat × List Nat) := (true, [([], []), ([], []), ([1], [1]), ([0, 2], [0, 2]), ([], []), ([4], [4]), ([3, 5, 3], [3, 5]), ([6, 6, 0, 1, 2, 3, 4, 5, 6], [0, 6])])
def page_Encode.B20 : List Nat := [0, 0, 2, 7, 0, 16, 63, 127]
theorem page_Encode.tab20 : rtab .any (opsOf Try.f13 20) = page_Encode.T20 := by kernel_rfl
theorem page_Encode.bits20 : waitsOk page_Encode.T20.2 page_Encode.B20 = true := by kernel_rfl
set_option maxHeartbeats 8000000 in
set_option maxRecDepth 100000 in
theorem page_Encode.calls (k : Nat) (a0_0 : Int) (A0_1 : Option Addr) (c0_1 : Nat) (l0_1 : List (S57)) (A0_2 : Option Addr) (c0_2 : Nat) (l0_2 : List (S61)) (a0_3 : ByteArray) (a0_4 : Int) (r1 : List Int) (r2 : Int) (w : World) (hr0_1 : Kd.C k57 w A0_1 l0_1.length l0_1) (hc0_1 : l0_1.length ≤ c0_1) (hr0_2 : Kd.C k61 w A0_2 l0_2.length l0_2) (hc0_2 : l0_2.length ≤ c0_2) (h : page_Encode.f k a0_0 l0_1 l0_2 a0_3 a0_4 = some (r1, r2)) :
    Calls Try.prog 13 #[.agg #[.int .i64 a0_0, .slice A0_1 l0_1.length c0_1, .slice A0_2 l0_2.length c0_2, .string a0_3, .int .i64 a0_4]] w fun e w' => ∃ v0_ : Value, e = .returned (.tuple #[v0_, .int .i64 r2]) ∧ Kd.R (Kd.int .u8) 5 w' w.heap.size (fun _ => True) v0_ r1 ∧ Below w.heap.size w w' := by
  have hu26 := Try.underlying26
  have hu57 := Try.underlying57
  have hu61 := Try.underlying61
  have HR0_1 := Aside0.mk hr0_1
  have HC0_1 := Aside0.mk hc0_1
  clear hr0_1 hc0_1
  have HR0_2 := Aside0.mk hr0_2
  have HC0_2 := Aside0.mk hc0_2
  clear hr0_2 hc0_2
  have HB := Aside0.mk (Below.refl w.heap.size w)
  have H : ((page_Right.f k a0_0 l0_1 l0_2 a0_3 a0_4).bind fun t170 => (if t170 = true then ((some (([(a0_0) % 256] : List Int) : List Int)).bind fun y171 => (if a0_0 = 1 then (if y171.length < 140737488355328 then (page_Encode.l0 k (y171 ++ [((l0_1.length : Int)) % 256]) l0_1 (l0_1.length : Int) 0) else (none)) else (if a0_0 = 2 then (if y171.length < 140737488355328 then (page_Encode.l1 k (y171 ++ [((l0_2.length : Int)) % 256]) l0_2 (l0_2.length : Int) 0) else (none)) else (if a0_0 = 3 then ((fix_PutText.f k y171 a0_3).bind fun t205 => ((fix_Put16.f k t205 a0_4).bind fun t208 => (if 0 ≤ (wrap64 (252 - (t208.length : Int))) then (if t208.length + (wrap64 (252 - (t208.length : Int)) : Int).toNat < 140737488355328 then ((sum_Seal.f (t208 ++ List.replicate (wrap64 (252 - (t208.length : Int)) : Int).toNat 0)).bind fun t214 => (some (t214, 0))) else (none)) else (none)))) else (if 0 ≤ (wrap64 (252 - (y171.length : Int))) then (if y171.length + (wrap64 (252 - (y171.length : Int)) : Int).toNat < 140737488355328 then ((sum_Seal.f (y171 ++ List.replicate (wrap64 (252 - (y171.length : Int)) : Int).toNat 0)).bind fun t220 => (some (t220, 0))) else (none)) else (none)))))) else (some (([] : List Int), 1)))) = some (r1, r2) := h
  clear h
  replace H := Option.bind_eq_some_iff.mp H
  obtain ⟨t170, A20, H⟩ := H
  replace H : (if t170 = true then ((some (([(a0_0) % 256] : List Int) : List Int)).bind fun y171 => (if a0_0 = 1 then (if y171.length < 140737488355328 then (page_Encode.l0 k (y171 ++ [((l0_1.length : Int)) % 256]) l0_1 (l0_1.length : Int) 0) else (none)) else (if a0_0 = 2 then (if y171.length < 140737488355328 then (page_Encode.l1 k (y171 ++ [((l0_2.length : Int)) % 256]) l0_2 (l0_2.length : Int) 0) else (none)) else (if a0_0 = 3 then ((fix_PutText.f k y171 a0_3).bind fun t205 => ((fix_Put16.f k t205 a0_4).bind fun t208 => (if 0 ≤ (wrap64 (252 - (t208.length : Int))) then (if t208.length + (wrap64 (252 - (t208.length : Int)) : Int).toNat < 140737488355328 then ((sum_Seal.f (t208 ++ List.replicate (wrap64 (252 - (t208.length : Int)) : Int).toNat 0)).bind fun t214 => (some (t214, 0))) else (none)) else (none)))) else (if 0 ≤ (wrap64 (252 - (y171.length : Int))) then (if y171.length + (wrap64 (252 - (y171.length : Int)) : Int).toNat < 140737488355328 then ((sum_Seal.f (y171 ++ List.replicate (wrap64 (252 - (y171.length : Int)) : Int).toNat 0)).bind fun t220 => (some (t220, 0))) else (none)) else (none)))))) else (some (([] : List Int), 1))) = some (r1, r2) := H
  have A2 := Aside0.mk A20
  clear A20
  by_cases c3 : t170 = true
  rotate_left
  · replace c3 := Bool.eq_false_iff.mpr c3
    subst c3
    have H1 : (some (([] : List Int), 1)) = some (r1, r2) := by rw [if_neg (show ¬ (false = true) by decide)] at H; exact H
    clear H
    have H := H1
    clear H1
    simp only [Option.some.injEq, Prod.mk.injEq] at H
    obtain ⟨rfl, rfl⟩ := H
    go_enter Try.func13, Try.ntmps13
    go_wp2_with (first | ((with_reducible refine gate_dst (N := 1) rfl ?_); refine box_event ?hg (N := 1) ?hd (cs := #[.int .i64 a0_0, .slice A0_1 l0_1.length c0_1, .slice A0_2 l0_2.length c0_2, .string a0_3, .int .i64 a0_4]) (t := 26) ?hr ?_; (case hd => rfl); (case hg => rfl); (case hr => first | (go_simp; done) | (go_simp; rfl)); intro gb169 hg w103 hbox hb; have n0_ := Aside0.mk (below_step (by repeat (first | (with_reducible first | exact HB.out | apply below_alloc | apply pw_below_drewN | apply below_drew1) | exact HB.out)) hb); have n1_ := Aside0.mk (hbox); have n2_ := Aside0.mk ((by rw [hg]; exact (below_size (by repeat (first | (with_reducible first | exact HB.out | apply below_alloc | apply pw_below_drewN | apply below_drew1) | exact HB.out))) : w.heap.size ≤ gb169)); have n3_ := n2_; clear HB; have HB := n0_; have BK169 := n1_; have GW169 := n2_; have GE169 := n3_; clear n0_ n1_ n2_ n3_; clear hb hbox hg; have hcz104_0 : w103.cell? ⟨gb169, 0, none⟩ = some (.int .i64 a0_0) := (blk_cell BK169.out 0).trans rfl; have hcz104_1 : w103.cell? ⟨gb169, 1, none⟩ = some (.slice A0_1 l0_1.length c0_1) := (blk_cell BK169.out 1).trans rfl; have hcz104_2 : w103.cell? ⟨gb169, 2, none⟩ = some (.slice A0_2 l0_2.length c0_2) := (blk_cell BK169.out 2).trans rfl; have hcz104_3 : w103.cell? ⟨gb169, 3, none⟩ = some (.string a0_3) := (blk_cell BK169.out 3).trans rfl; have hcz104_4 : w103.cell? ⟨gb169, 4, none⟩ = some (.int .i64 a0_4) := (blk_cell BK169.out 4).trans rfl; have hfz104_0 := blk_frozen BK169.out 0; have hfz104_1 := blk_frozen BK169.out 1; have hfz104_2 := blk_frozen BK169.out 2; have hfz104_3 := blk_frozen BK169.out 3; have hfz104_4 := blk_frozen BK169.out 4) | ((with_reducible refine gate_callee (f := 14) rfl ?_); refine goesL_ (some 10) rfl rfl Try.func14 (by kernel_rfl) rfl #[.agg #[.int .i64 a0_0, .slice A0_1 l0_1.length c0_1, .slice A0_2 l0_2.length c0_2, .string a0_3, .int .i64 a0_4]] rfl (by (try simp only [List.map_toArray, List.map_cons, List.map_nil]); first | done | rfl | (simp only [List.length_drop, List.length_take]; rfl)) ?_; (with_reducible refine (page_Right.calls k a0_0 _ _ l0_1 _ _ l0_2 a0_3 a0_4 false _ ?side1 ?side2 ?side3 ?side4 A2.out).mono ?_); (case side1 => repeat (first | exact (Kd.C_below HR0_1.out HB.out) | (with_reducible refine Kd.C_alloc ?_ _) | (with_reducible refine Kd.C_drewN ?_ _) | (with_reducible refine Kd.C_drew ?_))); (case side2 => exact HC0_1.out); (case side3 => repeat (first | exact (Kd.C_below HR0_2.out HB.out) | (with_reducible refine Kd.C_alloc ?_ _) | (with_reducible refine Kd.C_drewN ?_ _) | (with_reducible refine Kd.C_drew ?_))); (case side4 => exact HC0_2.out); rintro e w105 ⟨rfl, hb⟩; refine ⟨_, rfl, ?_⟩; have n0_ := Aside0.mk (blk_below (g := gb169) (o := .cells #[.int .i64 a0_0, .slice A0_1 l0_1.length c0_1, .slice A0_2 l0_2.length c0_2, .string a0_3, .int .i64 a0_4] 26 (0, 0)) (by (with_reducible repeat (first | refine blk_drewN ?_ _ | refine blk_drew ?_ | refine blk_alloc ?_ _)); exact BK169.out) hb); have n1_ := Aside0.mk (below_step (by repeat (first | (with_reducible first | exact HB.out | apply below_alloc | apply pw_below_drewN | apply below_drew1 | refine below_set ?_ GE169.out) | exact HB.out)) hb); clear BK169; clear HB; have BK169 := n0_; have HB := n1_; clear n0_ n1_; (try clear hb); (try clear hb2); (try clear hk); (try clear hi)))
    go_ret2
    exact ⟨_, by first | rfl | (simp [errW_none, errW_some] <;> rfl) | (simp [*, errW_none, errW_some] <;> rfl), by first | exact Kd.R_nil _ _ _ _ _ | exact Kd.N_nil _ _ _ _ _ | exact Kd.V_nil _ _ _ _ _ | exact Kd.Q_nil _ _ _ _ _ | exact Kd.S_nil _ _ _ _ _, by repeat (first | (with_reducible first | exact HB.out | apply below_alloc | apply pw_below_drewN | apply below_drew1 | refine below_set ?_ GE169.out) | exact HB.out)⟩
  subst c3
  have H1 : ((some (([(a0_0) % 256] : List Int) : List Int)).bind fun y171 => (if a0_0 = 1 then (if y171.length < 140737488355328 then (page_Encode.l0 k (y171 ++ [((l0_1.length : Int)) % 256]) l0_1 (l0_1.length : Int) 0) else (none)) else (if a0_0 = 2 then (if y171.length < 140737488355328 then (page_Encode.l1 k (y171 ++ [((l0_2.length : Int)) % 256]) l0_2 (l0_2.length : Int) 0) else (none)) else (if a0_0 = 3 then ((fix_PutText.f k y171 a0_3).bind fun t205 => ((fix_Put16.f k t205 a0_4).bind fun t208 => (if 0 ≤ (wrap64 (252 - (t208.length : Int))) then (if t208.length + (wrap64 (252 - (t208.length : Int)) : Int).toNat < 140737488355328 then ((sum_Seal.f (t208 ++ List.replicate (wrap64 (252 - (t208.length : Int)) : Int).toNat 0)).bind fun t214 => (some (t214, 0))) else (none)) else (none)))) else (if 0 ≤ (wrap64 (252 - (y171.length : Int))) then (if y171.length + (wrap64 (252 - (y171.length : Int)) : Int).toNat < 140737488355328 then ((sum_Seal.f (y171 ++ List.replicate (wrap64 (252 - (y171.length : Int)) : Int).toNat 0)).bind fun t220 => (some (t220, 0))) else (none)) else (none)))))) = some (r1, r2) := by rw [if_pos rfl] at H; exact H
  clear H
  have H := H1
  clear H1
  obtain ⟨y171, hy171⟩ : ∃ y_ : List Int, y_ = (([(a0_0) % 256] : List Int)) := ⟨_, rfl⟩
  replace H : (if a0_0 = 1 then (if y171.length < 140737488355328 then (page_Encode.l0 k (y171 ++ [((l0_1.length : Int)) % 256]) l0_1 (l0_1.length : Int) 0) else (none)) else (if a0_0 = 2 then (if y171.length < 140737488355328 then (page_Encode.l1 k (y171 ++ [((l0_2.length : Int)) % 256]) l0_2 (l0_2.length : Int) 0) else (none)) else (if a0_0 = 3 then ((fix_PutText.f k y171 a0_3).bind fun t205 => ((fix_Put16.f k t205 a0_4).bind fun t208 => (if 0 ≤ (wrap64 (252 - (t208.length : Int))) then (if t208.length + (wrap64 (252 - (t208.length : Int)) : Int).toNat < 140737488355328 then ((sum_Seal.f (t208 ++ List.replicate (wrap64 (252 - (t208.length : Int)) : Int).toNat 0)).bind fun t214 => (some (t214, 0))) else (none)) else (none)))) else (if 0 ≤ (wrap64 (252 - (y171.length : Int))) then (if y171.length + (wrap64 (252 - (y171.length : Int)) : Int).toNat < 140737488355328 then ((sum_Seal.f (y171 ++ List.replicate (wrap64 (252 - (y171.length : Int)) : Int).toNat 0)).bind fun t220 => (some (t220, 0))) else (none)) else (none))))) = some (r1, r2) := by first | (rw [hy171]; with_reducible exact H) | (have H2_ := (Option.bind_some _ _).symm.trans H; rw [hy171]; with_reducible exact H2_) | (have H2_ := (Option.bind_some _ _).symm.trans H; with_reducible exact H2_) | with_reducible exact H | (rw [hy171]; exact H) | exact H
  have Ny171 := Aside0.mk hy171
  clear hy171
  by_cases c4 : a0_0 = 1
  · rw [if_pos c4] at H
    have c4b0 : (a0_0 == 1) = true := beq_iff_eq.mpr c4
    have c4b1 : (a0_0 != 1) = false := bne_eq_false_iff_eq.mpr c4
    clear c4
    by_cases c5 : y171.length < 140737488355328
    rotate_left
    · rw [if_neg c5] at H
      exact absurd H (by simp)
    rw [if_pos c5] at H
    have LMc5 := Aside0.mk c5
    clear c5
    obtain ⟨y174, hy174⟩ : ∃ y_ : List Int, y_ = (y171 ++ [((l0_1.length : Int)) % 256]) := ⟨_, rfl⟩
    replace H : (page_Encode.l0 k y174 l0_1 (l0_1.length : Int) 0) = some (r1, r2) := by first | (rw [hy174]; with_reducible exact H) | (have H2_ := (Option.bind_some _ _).symm.trans H; rw [hy174]; with_reducible exact H2_) | (have H2_ := (Option.bind_some _ _).symm.trans H; with_reducible exact H2_) | with_reducible exact H | (rw [hy174]; exact H) | exact H
    have Ny174 := Aside0.mk hy174
    clear hy174
    have H' := Aside0.mk H
    clear H
    go_enter Try.func13, Try.ntmps13
    go_wp2_with (first | ((with_reducible refine gate_dst (N := 1) rfl ?_); refine box_event ?hg (N := 1) ?hd (cs := #[.int .i64 a0_0, .slice A0_1 l0_1.length c0_1, .slice A0_2 l0_2.length c0_2, .string a0_3, .int .i64 a0_4]) (t := 26) ?hr ?_; (case hd => rfl); (case hg => rfl); (case hr => first | (go_simp; done) | (go_simp; rfl)); intro gb169 hg w6 hbox hb; have n0_ := Aside0.mk (below_step (by repeat (first | (with_reducible first | exact HB.out | apply below_alloc | apply pw_below_drewN | apply below_drew1) | exact HB.out)) hb); have n1_ := Aside0.mk (hbox); have n2_ := Aside0.mk ((by rw [hg]; exact (below_size (by repeat (first | (with_reducible first | exact HB.out | apply below_alloc | apply pw_below_drewN | apply below_drew1) | exact HB.out))) : w.heap.size ≤ gb169)); have n3_ := n2_; clear HB; have HB := n0_; have BK169 := n1_; have GW169 := n2_; have GE169 := n3_; clear n0_ n1_ n2_ n3_; clear hb hbox hg; have hcz7_0 : w6.cell? ⟨gb169, 0, none⟩ = some (.int .i64 a0_0) := (blk_cell BK169.out 0).trans rfl; have hcz7_1 : w6.cell? ⟨gb169, 1, none⟩ = some (.slice A0_1 l0_1.length c0_1) := (blk_cell BK169.out 1).trans rfl; have hcz7_2 : w6.cell? ⟨gb169, 2, none⟩ = some (.slice A0_2 l0_2.length c0_2) := (blk_cell BK169.out 2).trans rfl; have hcz7_3 : w6.cell? ⟨gb169, 3, none⟩ = some (.string a0_3) := (blk_cell BK169.out 3).trans rfl; have hcz7_4 : w6.cell? ⟨gb169, 4, none⟩ = some (.int .i64 a0_4) := (blk_cell BK169.out 4).trans rfl; have hfz7_0 := blk_frozen BK169.out 0; have hfz7_1 := blk_frozen BK169.out 1; have hfz7_2 := blk_frozen BK169.out 2; have hfz7_3 := blk_frozen BK169.out 3; have hfz7_4 := blk_frozen BK169.out 4) | ((with_reducible refine gate_callee (f := 14) rfl ?_); refine goesL_ (some 10) rfl rfl Try.func14 (by kernel_rfl) rfl #[.agg #[.int .i64 a0_0, .slice A0_1 l0_1.length c0_1, .slice A0_2 l0_2.length c0_2, .string a0_3, .int .i64 a0_4]] rfl (by (try simp only [List.map_toArray, List.map_cons, List.map_nil]); first | done | rfl | (simp only [List.length_drop, List.length_take]; rfl)) ?_; (with_reducible refine (page_Right.calls k a0_0 _ _ l0_1 _ _ l0_2 a0_3 a0_4 true _ ?side1 ?side2 ?side3 ?side4 A2.out).mono ?_); (case side1 => repeat (first | exact (Kd.C_below HR0_1.out HB.out) | (with_reducible refine Kd.C_alloc ?_ _) | (with_reducible refine Kd.C_drewN ?_ _) | (with_reducible refine Kd.C_drew ?_))); (case side2 => exact HC0_1.out); (case side3 => repeat (first | exact (Kd.C_below HR0_2.out HB.out) | (with_reducible refine Kd.C_alloc ?_ _) | (with_reducible refine Kd.C_drewN ?_ _) | (with_reducible refine Kd.C_drew ?_))); (case side4 => exact HC0_2.out); rintro e w8 ⟨rfl, hb⟩; refine ⟨_, rfl, ?_⟩; have n0_ := Aside0.mk (blk_below (g := gb169) (o := .cells #[.int .i64 a0_0, .slice A0_1 l0_1.length c0_1, .slice A0_2 l0_2.length c0_2, .string a0_3, .int .i64 a0_4] 26 (0, 0)) (by (with_reducible repeat (first | refine blk_drewN ?_ _ | refine blk_drew ?_ | refine blk_alloc ?_ _)); exact BK169.out) hb); have n1_ := Aside0.mk (below_step (by repeat (first | (with_reducible first | exact HB.out | apply below_alloc | apply pw_below_drewN | apply below_drew1 | refine below_set ?_ GE169.out) | exact HB.out)) hb); clear BK169; clear HB; have BK169 := n0_; have HB := n1_; clear n0_ n1_; (try clear hb); (try clear hb2); (try clear hk); (try clear hi); have hcz9_0 : w8.cell? ⟨gb169, 0, none⟩ = some (.int .i64 a0_0) := (blk_cell BK169.out 0).trans rfl; have hcz9_1 : w8.cell? ⟨gb169, 1, none⟩ = some (.slice A0_1 l0_1.length c0_1) := (blk_cell BK169.out 1).trans rfl; have hcz9_2 : w8.cell? ⟨gb169, 2, none⟩ = some (.slice A0_2 l0_2.length c0_2) := (blk_cell BK169.out 2).trans rfl; have hcz9_3 : w8.cell? ⟨gb169, 3, none⟩ = some (.string a0_3) := (blk_cell BK169.out 3).trans rfl; have hcz9_4 : w8.cell? ⟨gb169, 4, none⟩ = some (.int .i64 a0_4) := (blk_cell BK169.out 4).trans rfl; have hfz9_0 := blk_frozen BK169.out 0; have hfz9_1 := blk_frozen BK169.out 1; have hfz9_2 := blk_frozen BK169.out 2; have hfz9_3 := blk_frozen BK169.out 3; have hfz9_4 := blk_frozen BK169.out 4) | ((with_reducible refine gate_dst (N := 15) rfl ?_); refine Kd.R_lit (Kd.int .u8) _ 5 ?hg (N := 15) ?hd (xs := ([(a0_0) % 256] : List Int)) (inner := [.int .u8 ((a0_0) % 256)]) (ok := fun _ => True) (okp := fun _ => True) ?hr ?hp (fun _ hk => hk) trivial (Below.refl _ _) (Nat.le_refl _) (by simp) ?_; (case hd => rfl); (case hg => rfl); (case hr => first | (go_simp; done) | (go_simp; rfl)); (case hp => exact (Reps.one (show Kd.M (Kd.int .u8) _ _ _ ((a0_0) % 256) [.int .u8 ((a0_0) % 256)] from rfl) (Reps.none _ _))); intro v172 w10 ho11 hb hg_ hnew_; clear hg_ hnew_; (first | rw [← Ny171.out] at ho11 | (simp only [Int.reduceToNat] at ho11; rw [← Ny171.out] at ho11)); have n0_ := Aside0.mk (Kd.R_lower ho11 (below_size (by repeat (first | (with_reducible first | exact HB.out | apply below_alloc | apply pw_below_drewN | apply below_drew1 | refine below_set ?_ GE169.out) | exact HB.out)))); have n1_ := Aside0.mk (blk_below (g := gb169) (o := .cells #[.int .i64 a0_0, .slice A0_1 l0_1.length c0_1, .slice A0_2 l0_2.length c0_2, .string a0_3, .int .i64 a0_4] 26 (0, 0)) (by (with_reducible repeat (first | refine blk_drewN ?_ _ | refine blk_drew ?_ | refine blk_alloc ?_ _)); exact BK169.out) hb); have n2_ := Aside0.mk (below_step (by repeat (first | (with_reducible first | exact HB.out | apply below_alloc | apply pw_below_drewN | apply below_drew1 | refine below_set ?_ GE169.out) | exact HB.out)) hb); clear BK169; clear HB; have HO173 := n0_; have BK169 := n1_; have HB := n2_; clear n0_ n1_ n2_; clear hb ho11; have hcz12_0 : w10.cell? ⟨gb169, 0, none⟩ = some (.int .i64 a0_0) := (blk_cell BK169.out 0).trans rfl; have hcz12_1 : w10.cell? ⟨gb169, 1, none⟩ = some (.slice A0_1 l0_1.length c0_1) := (blk_cell BK169.out 1).trans rfl; have hcz12_2 : w10.cell? ⟨gb169, 2, none⟩ = some (.slice A0_2 l0_2.length c0_2) := (blk_cell BK169.out 2).trans rfl; have hcz12_3 : w10.cell? ⟨gb169, 3, none⟩ = some (.string a0_3) := (blk_cell BK169.out 3).trans rfl; have hcz12_4 : w10.cell? ⟨gb169, 4, none⟩ = some (.int .i64 a0_4) := (blk_cell BK169.out 4).trans rfl; have hfz12_0 := blk_frozen BK169.out 0; have hfz12_1 := blk_frozen BK169.out 1; have hfz12_2 := blk_frozen BK169.out 2; have hfz12_3 := blk_frozen BK169.out 3; have hfz12_4 := blk_frozen BK169.out 4) | ((with_reducible refine gate_builtin (b := .append) (xs := #[.tmp 20, .tmp 25]) rfl ?_); at_builtin; refine Kd.R_append (Kd.int .u8) (w0 := w) w.heap.size rfl (.tmp 20) (.tmp 25) 30 5 (.int .u8 0) 1 rfl Try.underlying30 info5 rfl (by decide) (by omega) v172 y171 (((l0_1.length : Int)) % 256) [.int .u8 (((l0_1.length : Int)) % 256)] (fun _ => True) (fun _ => False) rfl rfl ?aP (fun _ hk => hk.elim) ?aF ?aO ?aB ?aS ?aL ?_; (case aP => exact rfl); (case aB => exact (by repeat (first | (with_reducible first | exact HB.out | apply below_alloc | apply pw_below_drewN | apply below_drew1 | refine below_set ?_ GE169.out) | exact HB.out))); (case aF => exact (fun _ _ => trivial)); (case aO => exact (by (with_reducible repeat (first | apply Kd.R_alloc | apply Kd.R_drewN | apply Kd.R_drew)); exact HO173.out)); (case aS => exact (below_size (by repeat (first | (with_reducible first | exact HB.out | apply below_alloc | apply pw_below_drewN | apply below_drew1 | refine below_set ?_ GE169.out) | exact HB.out)))); (case aL => have := LMc5.out; omega); intro v175 w13 ho hb hg hat; rw [← Ny174.out] at ho; have n0_ := Aside0.mk (blk_grown (g := gb169) (o := .cells #[.int .i64 a0_0, .slice A0_1 l0_1.length c0_1, .slice A0_2 l0_2.length c0_2, .string a0_3, .int .i64 a0_4] 26 (0, 0)) (by (with_reducible repeat (first | refine blk_drewN ?_ _ | refine blk_drew ?_ | refine blk_alloc ?_ _)); exact BK169.out) hg (Kd.R_ne HO173.out BK169.out (by decide))); have n1_ := Aside0.mk (hb); have n2_ := Aside0.mk (ho); clear BK169; clear HB; clear HO173; have BK169 := n0_; have HB := n1_; have HO176 := n2_; clear n0_ n1_ n2_; clear ho hb hg hat; have hcz14_0 : w13.cell? ⟨gb169, 0, none⟩ = some (.int .i64 a0_0) := (blk_cell BK169.out 0).trans rfl; have hcz14_1 : w13.cell? ⟨gb169, 1, none⟩ = some (.slice A0_1 l0_1.length c0_1) := (blk_cell BK169.out 1).trans rfl; have hcz14_2 : w13.cell? ⟨gb169, 2, none⟩ = some (.slice A0_2 l0_2.length c0_2) := (blk_cell BK169.out 2).trans rfl; have hcz14_3 : w13.cell? ⟨gb169, 3, none⟩ = some (.string a0_3) := (blk_cell BK169.out 3).trans rfl; have hcz14_4 : w13.cell? ⟨gb169, 4, none⟩ = some (.int .i64 a0_4) := (blk_cell BK169.out 4).trans rfl; have hfz14_0 := blk_frozen BK169.out 0; have hfz14_1 := blk_frozen BK169.out 1; have hfz14_2 := blk_frozen BK169.out 2; have hfz14_3 := blk_frozen BK169.out 3; have hfz14_4 := blk_frozen BK169.out 4))
    go_loopg [4, 30] k (fun kq v4 v30 w' => ∃ (x4_1 : List Int) (x30_1 : Int), v30 = .int .i64 x30_1 ∧ Aside0 (page_Encode.l0 kq x4_1 l0_1 (l0_1.length : Int) x30_1 = some (r1, r2)) ∧ Aside0 (kq ≤ k) ∧ Aside0 (Kd.R (Kd.int .u8) 5 w' w.heap.size (fun _ => True) v4 x4_1) ∧ Aside0 (w'.heap[gb169]? = some (.cells #[.int .i64 a0_0, (.slice A0_1 l0_1.length c0_1), (.slice A0_2 l0_2.length c0_2), .string a0_3, .int .i64 a0_4] 26 (0, 0))) ∧ Aside0 (Below w.heap.size w w'))
    case atStart => exact ⟨(y174), (0), (by first | rfl | (simp; done) | (simp [*]; done)), H', ⟨Nat.le_refl _⟩, ⟨by (with_reducible repeat (first | apply Kd.R_alloc | apply Kd.R_drewN | apply Kd.R_drew)); exact HO176.out⟩, ⟨by (with_reducible repeat (first | refine blk_drewN ?_ _ | refine blk_drew ?_ | refine blk_alloc ?_ _)); exact BK169.out⟩, ⟨by repeat (first | (with_reducible first | exact HB.out | apply below_alloc | apply pw_below_drewN | apply below_drew1 | refine below_set ?_ GE169.out) | exact HB.out)⟩⟩
    case round =>
      clear H'
      try clear c1
      try clear p2
      try clear c3
      try clear c4
      try clear c4b0
      try clear c4b1
      try clear c5
      try clear p6
      try clear c13
      try clear c14
      try clear hcz12_0
      try clear hcz12_1
      try clear hcz12_2
      try clear hcz12_3
      try clear hcz12_4
      try clear hcz14_0
      try clear hcz14_1
      try clear hcz14_2
      try clear hcz14_3
      try clear hcz14_4
      try clear hcz7_0
      try clear hcz7_1
      try clear hcz7_2
      try clear hcz7_3
      try clear hcz7_4
      try clear hcz9_0
      try clear hcz9_1
      try clear hcz9_2
      try clear hcz9_3
      try clear hcz9_4
      try clear hfz12_0
      try clear hfz12_1
      try clear hfz12_2
      try clear hfz12_3
      try clear hfz12_4
      try clear hfz14_0
      try clear hfz14_1
      try clear hfz14_2
      try clear hfz14_3
      try clear hfz14_4
      try clear hfz7_0
      try clear hfz7_1
      try clear hfz7_2
      try clear hfz7_3
      try clear hfz7_4
      try clear hfz9_0
      try clear hfz9_1
      try clear hfz9_2
      try clear hfz9_3
      try clear hfz9_4
      obtain ⟨x4_1, x30_1, rfl, HA, HK1, HO_4, BK169, HB⟩ := hrel
      cases gk with
      | zero => exact absurd HA.out (by simp [page_Encode.l0])
      | succ k1 =>
        have H := HA.out
        clear HA
        simp only [page_Encode.l0] at H
        by_cases c15 : x30_1 < (l0_1.length : Int)
        rotate_left
        · rw [if_neg c15] at H
          have c15b0 : decide (x30_1 < (l0_1.length : Int)) = false := decide_eq_false c15
          clear c15
          obtain ⟨ji24, hji24⟩ : ∃ j_ : Int, (wrap64 (252 - (x4_1.length : Int))) = j_ := ⟨_, rfl⟩
          replace H : (if 0 ≤ (ji24) then (if x4_1.length + (ji24 : Int).toNat < 140737488355328 then ((sum_Seal.f (x4_1 ++ List.replicate (ji24 : Int).toNat 0)).bind fun t185 => (some (t185, 0))) else (none)) else (none)) = some (r1, r2) := by first | (rw [hji24] at H; exact H) | (simp only [hji24] at H ⊢; exact H)
          have hji24w : (IntKind.i64.wrap (252 - (x4_1.length : Int))) = ji24 := (i64_w _).trans hji24
          by_cases c25 : 0 ≤ (ji24)
          rotate_left
          · rw [if_neg c25] at H
            exact absurd H (by simp)
          rw [if_pos c25] at H
          have c25b0 := eq_true c25
          have c25b1 := decide_eq_true c25
          clear c25
          by_cases c26 : x4_1.length + (ji24 : Int).toNat < 140737488355328
          rotate_left
          · rw [if_neg c26] at H
            exact absurd H (by simp)
          rw [if_pos c26] at H
          have LMc26 := Aside0.mk c26
          clear c26
          obtain ⟨y182, hy182⟩ : ∃ y_ : List Int, y_ = (x4_1 ++ List.replicate (ji24 : Int).toNat 0) := ⟨_, rfl⟩
          replace H : ((sum_Seal.f y182).bind fun t185 => (some (t185, 0))) = some (r1, r2) := by first | (rw [hy182]; with_reducible exact H) | (have H2_ := (Option.bind_some _ _).symm.trans H; rw [hy182]; with_reducible exact H2_) | (have H2_ := (Option.bind_some _ _).symm.trans H; with_reducible exact H2_) | with_reducible exact H | (rw [hy182]; exact H) | exact H
          have Ny182 := Aside0.mk hy182
          clear hy182
          replace H := Option.bind_eq_some_iff.mp H
          obtain ⟨t185, A270, H⟩ := H
          replace H : (some (t185, 0)) = some (r1, r2) := H
          have A27 := Aside0.mk A270
          clear A270
          simp only [Option.some.injEq, Prod.mk.injEq] at H
          obtain ⟨rfl, rfl⟩ := H
          obtain ⟨Ao28, co28, eo28⟩ := Kd.R_slice HO_4.out
          subst eo28
          go_wp2_with (first | (at_builtin; refine Kd.R_append_zeros (Kd.int .u8) (w0 := w) w.heap.size rfl (.tmp 71) (.tmp 74) 30 3 5 (.int .u8 0) 1 rfl Try.underlying30 Try.underlying3 info5 rfl (by decide) (by omega) (.slice Ao28 x4_1.length co28) x4_1 0 (ji24 : Int) (fun _ => True) rfl rfl rfl ?aF ?aO (of_decide_eq_true (by first | (with_reducible assumption) | assumption)) ?aB ?aS ?aL ?_; (case aB => exact (by repeat (first | (with_reducible first | exact HB.out | apply below_alloc | apply pw_below_drewN | apply below_drew1 | refine below_set ?_ GE169.out) | exact HB.out))); (case aF => exact (fun _ _ => trivial)); (case aO => exact (by (with_reducible repeat (first | apply Kd.R_alloc | apply Kd.R_drewN | apply Kd.R_drew)); exact HO_4.out)); (case aS => exact (below_size (by repeat (first | (with_reducible first | exact HB.out | apply below_alloc | apply pw_below_drewN | apply below_drew1 | refine below_set ?_ GE169.out) | exact HB.out)))); (case aL => have := LMc26.out; omega); intro v183 w29 ho hb hg hat; rw [← Ny182.out] at ho; have n0_ := Aside0.mk (blk_grown (g := gb169) (o := .cells #[.int .i64 a0_0, .slice A0_1 l0_1.length c0_1, .slice A0_2 l0_2.length c0_2, .string a0_3, .int .i64 a0_4] 26 (0, 0)) (by (with_reducible repeat (first | refine blk_drewN ?_ _ | refine blk_drew ?_ | refine blk_alloc ?_ _)); exact BK169.out) hg (Kd.R_ne HO_4.out BK169.out (by decide))); have n1_ := Aside0.mk (hb); have n2_ := Aside0.mk (ho); clear BK169; clear HB; clear HO_4; have BK169 := n0_; have HB := n1_; have HO184 := n2_; clear n0_ n1_ n2_; clear ho hb hg hat; obtain ⟨Ao30, co30, eo30⟩ := Kd.R_slice HO184.out; subst eo30) | ((with_reducible refine gate_callee (f := 31) rfl ?_); refine goesL_ (some 76) rfl rfl Try.func31 (by kernel_rfl) rfl #[.slice Ao30 y182.length co30] rfl (by (try simp only [List.map_toArray, List.map_cons, List.map_nil]); first | done | rfl | (simp only [List.length_drop, List.length_take]; rfl)) ?_; (with_reducible refine (sum_Seal.calls _ _ y182 t185 _ ?side1 ?side2 A27.out).mono ?_); (case side1 => repeat (first | exact (Kd.R_reads' HO184.out).2.2 | (with_reducible refine Kd.C_alloc ?_ _) | (with_reducible refine Kd.C_drewN ?_ _) | (with_reducible refine Kd.C_drew ?_))); (case side2 => exact (Kd.R_reads' HO184.out).2.1); rintro e w31 ⟨v186, rfl, ho0, hb⟩; refine ⟨_, rfl, ?_⟩; have n0_ := Aside0.mk (Kd.R_elder' (by (with_reducible repeat (first | apply Kd.R_alloc | apply Kd.R_drewN | apply Kd.R_drew)); exact HO184.out) (Kd.R_base ho0) hb); have n1_ := Aside0.mk (Kd.R_lower (Kd.R_new' ho0 (Kd.R_lt (by (with_reducible repeat (first | apply Kd.R_alloc | apply Kd.R_drewN | apply Kd.R_drew)); exact HO184.out))) (below_size (by repeat (first | (with_reducible first | exact HB.out | apply below_alloc | apply pw_below_drewN | apply below_drew1 | refine below_set ?_ GE169.out) | exact HB.out)))); have n2_ := Aside0.mk (blk_below (g := gb169) (o := .cells #[.int .i64 a0_0, .slice A0_1 l0_1.length c0_1, .slice A0_2 l0_2.length c0_2, .string a0_3, .int .i64 a0_4] 26 (0, 0)) (by (with_reducible repeat (first | refine blk_drewN ?_ _ | refine blk_drew ?_ | refine blk_alloc ?_ _)); exact BK169.out) hb); have n3_ := Aside0.mk (below_step (by repeat (first | (with_reducible first | exact HB.out | apply below_alloc | apply pw_below_drewN | apply below_drew1 | refine below_set ?_ GE169.out) | exact HB.out)) hb); clear HO184; clear BK169; clear HB; have HO184 := n0_; have HO187 := n1_; have BK169 := n2_; have HB := n3_; clear n0_ n1_ n2_ n3_; (try clear hb); (try clear hb2); (try clear hk); (try clear hi); (try clear ho0)))
          go_ret2
          exact ⟨_, by first | rfl | (simp [errW_none, errW_some] <;> rfl) | (simp only [← hji24]; first | rfl | (simp [errW_none, errW_some] <;> rfl)) | (simp [*, errW_none, errW_some] <;> rfl), by (with_reducible repeat (first | apply Kd.R_alloc | apply Kd.R_drewN | apply Kd.R_drew)); exact Kd.R_mono HO187.out (fun _ hk => trivial), by repeat (first | (with_reducible first | exact HB.out | apply below_alloc | apply pw_below_drewN | apply below_drew1 | refine below_set ?_ GE169.out) | exact HB.out)⟩
        rw [if_pos c15] at H
        have c15b0 := decide_eq_true c15
        clear c15
        by_cases c16 : 0 ≤ x30_1
        rotate_left
        · rw [if_neg c16] at H
          exact absurd H (by simp)
        rw [if_pos c16] at H
        have c16b0 := decide_eq_true c16
        clear c16
        by_cases c17 : x30_1 < (l0_1.length : Int)
        rotate_left
        · rw [if_neg c17] at H
          exact absurd H (by simp)
        rw [if_pos c17] at H
        have c17b0 := decide_eq_true c17
        clear c17
        replace H := Option.bind_eq_some_iff.mp H
        obtain ⟨t179, A180, H⟩ := H
        replace H : (page_Encode.l0 k1 t179 l0_1 (l0_1.length : Int) (wrap64 (x30_1 + 1))) = some (r1, r2) := H
        have A18 := Aside0.mk A180
        clear A180
        have H' := Aside0.mk H
        clear H
        have p177 : 0 ≤ (x30_1 : Int) := of_decide_eq_true (by first | (with_reducible assumption) | assumption)
        have q177 : x30_1 < (l0_1.length : Int) := of_decide_eq_true (by first | (with_reducible assumption) | assumption)
        obtain ⟨ad177, e177, hx177_0, hx177_1, hx177_2, hx177_3⟩ := at_T57 HR0_1.out x30_1 p177 q177
        cases e177
        replace hx177_0 := (HB.out.cell (World.block_lt_of_cell? w _ hx177_0)).trans hx177_0
        replace hx177_1 := (HB.out.cell (World.block_lt_of_cell? w _ hx177_1)).trans hx177_1
        replace hx177_2 := (HB.out.cell (World.block_lt_of_cell? w _ hx177_2)).trans hx177_2
        replace hx177_3 := (HB.out.cell (World.block_lt_of_cell? w _ hx177_3)).trans hx177_3
        replace p177 := eq_true p177
        replace q177 := eq_true q177
        go_wp2_with (first | ((with_reducible refine gate_dst (N := 6) rfl ?_); refine box_event ?hg (N := 6) ?hd (cs := #[.string (⟨#[]⟩ : ByteArray), .string (⟨#[]⟩ : ByteArray), .int .i64 0, .int .i64 0]) (t := 57) ?hr ?_; (case hd => rfl); (case hg => rfl); (case hr => first | (go_simp; done) | (go_simp; rfl)); intro gb178 hg w19 hbox hb; have n0_ := Aside0.mk (Kd.R_below (by (with_reducible repeat (first | apply Kd.R_alloc | apply Kd.R_drewN | apply Kd.R_drew)); exact HO_4.out) hb); have n1_ := Aside0.mk (blk_below (g := gb169) (o := .cells #[.int .i64 a0_0, .slice (some ad177) l0_1.length c0_1, .slice A0_2 l0_2.length c0_2, .string a0_3, .int .i64 a0_4] 26 (0, 0)) (by (with_reducible repeat (first | refine blk_drewN ?_ _ | refine blk_drew ?_ | refine blk_alloc ?_ _)); exact BK169.out) hb); have n2_ := Aside0.mk (below_step (by repeat (first | (with_reducible first | exact HB.out | apply below_alloc | apply pw_below_drewN | apply below_drew1 | refine below_set ?_ GE169.out) | exact HB.out)) hb); have n3_ := Aside0.mk (hbox); have n4_ := Aside0.mk ((by rw [hg]; exact (below_size (by repeat (first | (with_reducible first | exact HB.out | apply below_alloc | apply pw_below_drewN | apply below_drew1 | refine below_set ?_ GE169.out) | exact HB.out))) : w.heap.size ≤ gb178)); have n5_ := n4_; have n6_ := Aside0.mk ((by rw [hg]; exact Nat.ne_of_lt (blk_lt (g := gb169) (o := .cells #[.int .i64 a0_0, .slice (some ad177) l0_1.length c0_1, .slice A0_2 l0_2.length c0_2, .string a0_3, .int .i64 a0_4] 26 (0, 0)) (by (with_reducible repeat (first | refine blk_drewN ?_ _ | refine blk_drew ?_ | refine blk_alloc ?_ _)); exact BK169.out)) : gb169 ≠ gb178)); have n7_ := Aside0.mk ((by rw [hg]; exact Nat.ne_of_gt (blk_lt (g := gb169) (o := .cells #[.int .i64 a0_0, .slice (some ad177) l0_1.length c0_1, .slice A0_2 l0_2.length c0_2, .string a0_3, .int .i64 a0_4] 26 (0, 0)) (by (with_reducible repeat (first | refine blk_drewN ?_ _ | refine blk_drew ?_ | refine blk_alloc ?_ _)); exact BK169.out)) : gb178 ≠ gb169)); clear HO_4; clear BK169; clear HB; have HO_4 := n0_; have BK169 := n1_; have HB := n2_; have BK178 := n3_; have GW178 := n4_; have GE178 := n5_; have NB169_178 := n6_; have NB178_169 := n7_; clear n0_ n1_ n2_ n3_ n4_ n5_ n6_ n7_; clear hb hbox hg; have hnb20 := NB178_169.out; have hnc20 := NB169_178.out; have hcz21_0 : w19.cell? ⟨gb178, 0, none⟩ = some (.string (⟨#[]⟩ : ByteArray)) := (blk_cell BK178.out 0).trans rfl; have hcz21_1 : w19.cell? ⟨gb178, 1, none⟩ = some (.string (⟨#[]⟩ : ByteArray)) := (blk_cell BK178.out 1).trans rfl; have hcz21_2 : w19.cell? ⟨gb178, 2, none⟩ = some (.int .i64 0) := (blk_cell BK178.out 2).trans rfl; have hcz21_3 : w19.cell? ⟨gb178, 3, none⟩ = some (.int .i64 0) := (blk_cell BK178.out 3).trans rfl; have hfz21_0 := blk_frozen BK178.out 0; have hfz21_1 := blk_frozen BK178.out 1; have hfz21_2 := blk_frozen BK178.out 2; have hfz21_3 := blk_frozen BK178.out 3; obtain ⟨Ao22, co22, eo22⟩ := Kd.R_slice HO_4.out; subst eo22) | ((with_reducible refine gate_callee (f := 28) rfl ?_); refine goesL_ (some 36) rfl rfl Try.func28 (by kernel_rfl) rfl #[.slice Ao22 x4_1.length co22, .agg #[.string ((rd_T57 l0_1 x30_1).f0), .string ((rd_T57 l0_1 x30_1).f1), .int .i64 ((rd_T57 l0_1 x30_1).f2), .int .i64 ((rd_T57 l0_1 x30_1).f3)]] rfl (by (try simp only [List.map_toArray, List.map_cons, List.map_nil]); first | done | rfl | (simp only [List.length_drop, List.length_take]; rfl)) ?_; (with_reducible refine (page_putCell.calls k1 _ _ x4_1 ((rd_T57 l0_1 x30_1).f0) ((rd_T57 l0_1 x30_1).f1) ((rd_T57 l0_1 x30_1).f2) ((rd_T57 l0_1 x30_1).f3) t179 _ ?side1 ?side2 A18.out).mono ?_); (case side1 => refine (Kd.R_reads' (e := 5) (base := w.heap.size) (ok := fun k_ => True) (n := x4_1.length) (c := co22) ?_).2.2; exact (by (with_reducible repeat (first | apply Kd.R_alloc | apply Kd.R_drewN | apply Kd.R_drew)); exact (Kd.R_mono (Kd.R_far (p := ⟨gb178, 3, none⟩) (Kd.R_far (p := ⟨gb178, 2, none⟩) (Kd.R_far (p := ⟨gb178, 1, none⟩) (Kd.R_far (p := ⟨gb178, 0, none⟩) (Kd.R_types HO_4.out BK178.out (by decide)) (fun _ hk => hk.2) (.string ((rd_T57 l0_1 x30_1).f0))) (fun _ hk => hk.2) (.string ((rd_T57 l0_1 x30_1).f1))) (fun _ hk => hk.2) (.int .i64 ((rd_T57 l0_1 x30_1).f2))) (fun _ hk => hk.2) (.int .i64 ((rd_T57 l0_1 x30_1).f3))) (fun _ h_ => h_.1)))); (case side2 => exact (Kd.R_reads' HO_4.out).2.1); rintro e w23 ⟨v180, rfl, ho0, hb⟩; refine ⟨_, rfl, ?_⟩; have n0_ := Aside0.mk (Kd.R_elder' (by (with_reducible repeat (first | apply Kd.R_alloc | apply Kd.R_drewN | apply Kd.R_drew)); exact (Kd.R_mono (Kd.R_far (p := ⟨gb178, 3, none⟩) (Kd.R_far (p := ⟨gb178, 2, none⟩) (Kd.R_far (p := ⟨gb178, 1, none⟩) (Kd.R_far (p := ⟨gb178, 0, none⟩) (Kd.R_types HO_4.out BK178.out (by decide)) (fun _ hk => hk.2) (.string ((rd_T57 l0_1 x30_1).f0))) (fun _ hk => hk.2) (.string ((rd_T57 l0_1 x30_1).f1))) (fun _ hk => hk.2) (.int .i64 ((rd_T57 l0_1 x30_1).f2))) (fun _ hk => hk.2) (.int .i64 ((rd_T57 l0_1 x30_1).f3))) (fun _ h_ => h_.1))) (Kd.R_base ho0) hb); have n1_ := Aside0.mk (Kd.R_lower (Kd.R_new' ho0 (Kd.R_lt (by (with_reducible repeat (first | apply Kd.R_alloc | apply Kd.R_drewN | apply Kd.R_drew)); exact (Kd.R_mono (Kd.R_far (p := ⟨gb178, 3, none⟩) (Kd.R_far (p := ⟨gb178, 2, none⟩) (Kd.R_far (p := ⟨gb178, 1, none⟩) (Kd.R_far (p := ⟨gb178, 0, none⟩) (Kd.R_types HO_4.out BK178.out (by decide)) (fun _ hk => hk.2) (.string ((rd_T57 l0_1 x30_1).f0))) (fun _ hk => hk.2) (.string ((rd_T57 l0_1 x30_1).f1))) (fun _ hk => hk.2) (.int .i64 ((rd_T57 l0_1 x30_1).f2))) (fun _ hk => hk.2) (.int .i64 ((rd_T57 l0_1 x30_1).f3))) (fun _ h_ => h_.1))))) (below_size (by repeat (first | (with_reducible first | exact HB.out | apply below_alloc | apply pw_below_drewN | apply below_drew1 | refine below_set ?_ GE169.out | refine below_set ?_ GE178.out) | exact HB.out)))); have n2_ := Aside0.mk (blk_below (g := gb169) (o := .cells #[.int .i64 a0_0, .slice (some ad177) l0_1.length c0_1, .slice A0_2 l0_2.length c0_2, .string a0_3, .int .i64 a0_4] 26 (0, 0)) (by (with_reducible repeat (first | refine blk_drewN ?_ _ | refine blk_drew ?_ | refine blk_alloc ?_ _)); refine blk_far ?_ NB169_178.out _; (with_reducible repeat (first | refine blk_drewN ?_ _ | refine blk_drew ?_ | refine blk_alloc ?_ _)); refine blk_far ?_ NB169_178.out _; (with_reducible repeat (first | refine blk_drewN ?_ _ | refine blk_drew ?_ | refine blk_alloc ?_ _)); refine blk_far ?_ NB169_178.out _; (with_reducible repeat (first | refine blk_drewN ?_ _ | refine blk_drew ?_ | refine blk_alloc ?_ _)); refine blk_far ?_ NB169_178.out _; (with_reducible repeat (first | refine blk_drewN ?_ _ | refine blk_drew ?_ | refine blk_alloc ?_ _)); exact BK169.out) hb); have n3_ := Aside0.mk (blk_below (g := gb178) (o := .cells #[.string ((rd_T57 l0_1 x30_1).f0), .string ((rd_T57 l0_1 x30_1).f1), .int .i64 ((rd_T57 l0_1 x30_1).f2), .int .i64 ((rd_T57 l0_1 x30_1).f3)] 57 (0, 0)) (by (with_reducible repeat (first | refine blk_drewN ?_ _ | refine blk_drew ?_ | refine blk_alloc ?_ _)); refine blk_put (cs := #[.string ((rd_T57 l0_1 x30_1).f0), .string ((rd_T57 l0_1 x30_1).f1), .int .i64 ((rd_T57 l0_1 x30_1).f2), .int .i64 0]) ?_ 3 _ rfl; (with_reducible repeat (first | refine blk_drewN ?_ _ | refine blk_drew ?_ | refine blk_alloc ?_ _)); refine blk_put (cs := #[.string ((rd_T57 l0_1 x30_1).f0), .string ((rd_T57 l0_1 x30_1).f1), .int .i64 0, .int .i64 0]) ?_ 2 _ rfl; (with_reducible repeat (first | refine blk_drewN ?_ _ | refine blk_drew ?_ | refine blk_alloc ?_ _)); refine blk_put (cs := #[.string ((rd_T57 l0_1 x30_1).f0), .string (⟨#[]⟩ : ByteArray), .int .i64 0, .int .i64 0]) ?_ 1 _ rfl; (with_reducible repeat (first | refine blk_drewN ?_ _ | refine blk_drew ?_ | refine blk_alloc ?_ _)); refine blk_put (cs := #[.string (⟨#[]⟩ : ByteArray), .string (⟨#[]⟩ : ByteArray), .int .i64 0, .int .i64 0]) ?_ 0 _ rfl; (with_reducible repeat (first | refine blk_drewN ?_ _ | refine blk_drew ?_ | refine blk_alloc ?_ _)); exact BK178.out) hb); have n4_ := Aside0.mk (below_step (by repeat (first | (with_reducible first | exact HB.out | apply below_alloc | apply pw_below_drewN | apply below_drew1 | refine below_set ?_ GE169.out | refine below_set ?_ GE178.out) | exact HB.out)) hb); clear HO_4; clear BK169; clear BK178; clear HB; have HO_4 := n0_; have HO181 := n1_; have BK169 := n2_; have BK178 := n3_; have HB := n4_; clear n0_ n1_ n2_ n3_ n4_; (try clear hb); (try clear hb2); (try clear hk); (try clear hi); (try clear ho0)))
        go_roundg k1
        case measure => have := HK1.out; omega
        case rel => exact ⟨(t179), (wrap64 (x30_1 + 1)), (by first | rfl | (simp; done) | (simp [*]; done)), H', ⟨by have := HK1.out; omega⟩, ⟨by (with_reducible repeat (first | apply Kd.R_alloc | apply Kd.R_drewN | apply Kd.R_drew)); exact Kd.R_mono HO181.out (fun _ hk => trivial)⟩, ⟨by (with_reducible repeat (first | refine blk_drewN ?_ _ | refine blk_drew ?_ | refine blk_alloc ?_ _)); exact BK169.out⟩, ⟨by repeat (first | (with_reducible first | exact HB.out | apply below_alloc | apply pw_below_drewN | apply below_drew1 | refine below_set ?_ GE169.out | refine below_set ?_ GE178.out) | exact HB.out)⟩⟩
  rw [if_neg c4] at H
  have c4b0 : (a0_0 == 1) = false := beq_eq_false_iff_ne.mpr c4
  have c4b1 : (a0_0 != 1) = true := bne_iff_ne.mpr c4
  by_cases c32 : a0_0 = 2
  rotate_left
  · rw [if_neg c32] at H
    have c32b0 : (a0_0 == 2) = false := beq_eq_false_iff_ne.mpr c32
    have c32b1 : (a0_0 != 2) = true := bne_iff_ne.mpr c32
    by_cases c65 : a0_0 = 3
    rotate_left
    · rw [if_neg c65] at H
      have c65b0 : (a0_0 == 3) = false := beq_eq_false_iff_ne.mpr c65
      have c65b1 : (a0_0 != 3) = true := bne_iff_ne.mpr c65
      obtain ⟨ji88, hji88⟩ : ∃ j_ : Int, (wrap64 (252 - (y171.length : Int))) = j_ := ⟨_, rfl⟩
      replace H : (if 0 ≤ (ji88) then (if y171.length + (ji88 : Int).toNat < 140737488355328 then ((sum_Seal.f (y171 ++ List.replicate (ji88 : Int).toNat 0)).bind fun t220 => (some (t220, 0))) else (none)) else (none)) = some (r1, r2) := by first | (rw [hji88] at H; exact H) | (simp only [hji88] at H ⊢; exact H)
      (try rw [hji88] at A2)
      have hji88w : (IntKind.i64.wrap (252 - (y171.length : Int))) = ji88 := (i64_w _).trans hji88
      by_cases c89 : 0 ≤ (ji88)
      rotate_left
      · rw [if_neg c89] at H
        exact absurd H (by simp)
      rw [if_pos c89] at H
      have c89b0 := eq_true c89
      have c89b1 := decide_eq_true c89
      clear c89
      by_cases c90 : y171.length + (ji88 : Int).toNat < 140737488355328
      rotate_left
      · rw [if_neg c90] at H
        exact absurd H (by simp)
      rw [if_pos c90] at H
      have LMc90 := Aside0.mk c90
      clear c90
      obtain ⟨y217, hy217⟩ : ∃ y_ : List Int, y_ = (y171 ++ List.replicate (ji88 : Int).toNat 0) := ⟨_, rfl⟩
      replace H : ((sum_Seal.f y217).bind fun t220 => (some (t220, 0))) = some (r1, r2) := by first | (rw [hy217]; with_reducible exact H) | (have H2_ := (Option.bind_some _ _).symm.trans H; rw [hy217]; with_reducible exact H2_) | (have H2_ := (Option.bind_some _ _).symm.trans H; with_reducible exact H2_) | with_reducible exact H | (rw [hy217]; exact H) | exact H
      have Ny217 := Aside0.mk hy217
      clear hy217
      replace H := Option.bind_eq_some_iff.mp H
      obtain ⟨t220, A910, H⟩ := H
      replace H : (some (t220, 0)) = some (r1, r2) := H
      have A91 := Aside0.mk A910
      clear A910
      simp only [Option.some.injEq, Prod.mk.injEq] at H
      obtain ⟨rfl, rfl⟩ := H
      go_enter Try.func13, Try.ntmps13
      go_wp2_with (first | ((with_reducible refine gate_dst (N := 1) rfl ?_); refine box_event ?hg (N := 1) ?hd (cs := #[.int .i64 a0_0, .slice A0_1 l0_1.length c0_1, .slice A0_2 l0_2.length c0_2, .string a0_3, .int .i64 a0_4]) (t := 26) ?hr ?_; (case hd => rfl); (case hg => rfl); (case hr => first | (go_simp; done) | (go_simp; rfl)); intro gb169 hg w92 hbox hb; have n0_ := Aside0.mk (below_step (by repeat (first | (with_reducible first | exact HB.out | apply below_alloc | apply pw_below_drewN | apply below_drew1) | exact HB.out)) hb); have n1_ := Aside0.mk (hbox); have n2_ := Aside0.mk ((by rw [hg]; exact (below_size (by repeat (first | (with_reducible first | exact HB.out | apply below_alloc | apply pw_below_drewN | apply below_drew1) | exact HB.out))) : w.heap.size ≤ gb169)); have n3_ := n2_; clear HB; have HB := n0_; have BK169 := n1_; have GW169 := n2_; have GE169 := n3_; clear n0_ n1_ n2_ n3_; clear hb hbox hg; have hcz93_0 : w92.cell? ⟨gb169, 0, none⟩ = some (.int .i64 a0_0) := (blk_cell BK169.out 0).trans rfl; have hcz93_1 : w92.cell? ⟨gb169, 1, none⟩ = some (.slice A0_1 l0_1.length c0_1) := (blk_cell BK169.out 1).trans rfl; have hcz93_2 : w92.cell? ⟨gb169, 2, none⟩ = some (.slice A0_2 l0_2.length c0_2) := (blk_cell BK169.out 2).trans rfl; have hcz93_3 : w92.cell? ⟨gb169, 3, none⟩ = some (.string a0_3) := (blk_cell BK169.out 3).trans rfl; have hcz93_4 : w92.cell? ⟨gb169, 4, none⟩ = some (.int .i64 a0_4) := (blk_cell BK169.out 4).trans rfl; have hfz93_0 := blk_frozen BK169.out 0; have hfz93_1 := blk_frozen BK169.out 1; have hfz93_2 := blk_frozen BK169.out 2; have hfz93_3 := blk_frozen BK169.out 3; have hfz93_4 := blk_frozen BK169.out 4) | ((with_reducible refine gate_callee (f := 14) rfl ?_); refine goesL_ (some 10) rfl rfl Try.func14 (by kernel_rfl) rfl #[.agg #[.int .i64 a0_0, .slice A0_1 l0_1.length c0_1, .slice A0_2 l0_2.length c0_2, .string a0_3, .int .i64 a0_4]] rfl (by (try simp only [List.map_toArray, List.map_cons, List.map_nil]); first | done | rfl | (simp only [List.length_drop, List.length_take]; rfl)) ?_; (with_reducible refine (page_Right.calls k a0_0 _ _ l0_1 _ _ l0_2 a0_3 a0_4 true _ ?side1 ?side2 ?side3 ?side4 A2.out).mono ?_); (case side1 => repeat (first | exact (Kd.C_below HR0_1.out HB.out) | (with_reducible refine Kd.C_alloc ?_ _) | (with_reducible refine Kd.C_drewN ?_ _) | (with_reducible refine Kd.C_drew ?_))); (case side2 => exact HC0_1.out); (case side3 => repeat (first | exact (Kd.C_below HR0_2.out HB.out) | (with_reducible refine Kd.C_alloc ?_ _) | (with_reducible refine Kd.C_drewN ?_ _) | (with_reducible refine Kd.C_drew ?_))); (case side4 => exact HC0_2.out); rintro e w94 ⟨rfl, hb⟩; refine ⟨_, rfl, ?_⟩; have n0_ := Aside0.mk (blk_below (g := gb169) (o := .cells #[.int .i64 a0_0, .slice A0_1 l0_1.length c0_1, .slice A0_2 l0_2.length c0_2, .string a0_3, .int .i64 a0_4] 26 (0, 0)) (by (with_reducible repeat (first | refine blk_drewN ?_ _ | refine blk_drew ?_ | refine blk_alloc ?_ _)); exact BK169.out) hb); have n1_ := Aside0.mk (below_step (by repeat (first | (with_reducible first | exact HB.out | apply below_alloc | apply pw_below_drewN | apply below_drew1 | refine below_set ?_ GE169.out) | exact HB.out)) hb); clear BK169; clear HB; have BK169 := n0_; have HB := n1_; clear n0_ n1_; (try clear hb); (try clear hb2); (try clear hk); (try clear hi); have hcz95_0 : w94.cell? ⟨gb169, 0, none⟩ = some (.int .i64 a0_0) := (blk_cell BK169.out 0).trans rfl; have hcz95_1 : w94.cell? ⟨gb169, 1, none⟩ = some (.slice A0_1 l0_1.length c0_1) := (blk_cell BK169.out 1).trans rfl; have hcz95_2 : w94.cell? ⟨gb169, 2, none⟩ = some (.slice A0_2 l0_2.length c0_2) := (blk_cell BK169.out 2).trans rfl; have hcz95_3 : w94.cell? ⟨gb169, 3, none⟩ = some (.string a0_3) := (blk_cell BK169.out 3).trans rfl; have hcz95_4 : w94.cell? ⟨gb169, 4, none⟩ = some (.int .i64 a0_4) := (blk_cell BK169.out 4).trans rfl; have hfz95_0 := blk_frozen BK169.out 0; have hfz95_1 := blk_frozen BK169.out 1; have hfz95_2 := blk_frozen BK169.out 2; have hfz95_3 := blk_frozen BK169.out 3; have hfz95_4 := blk_frozen BK169.out 4) | ((with_reducible refine gate_dst (N := 15) rfl ?_); refine Kd.R_lit (Kd.int .u8) _ 5 ?hg (N := 15) ?hd (xs := ([(a0_0) % 256] : List Int)) (inner := [.int .u8 ((a0_0) % 256)]) (ok := fun _ => True) (okp := fun _ => True) ?hr ?hp (fun _ hk => hk) trivial (Below.refl _ _) (Nat.le_refl _) (by simp) ?_; (case hd => rfl); (case hg => rfl); (case hr => first | (go_simp; done) | (go_simp; rfl)); (case hp => exact (Reps.one (show Kd.M (Kd.int .u8) _ _ _ ((a0_0) % 256) [.int .u8 ((a0_0) % 256)] from rfl) (Reps.none _ _))); intro v172 w96 ho97 hb hg_ hnew_; clear hg_ hnew_; (first | rw [← Ny171.out] at ho97 | (simp only [Int.reduceToNat] at ho97; rw [← Ny171.out] at ho97)); have n0_ := Aside0.mk (Kd.R_lower ho97 (below_size (by repeat (first | (with_reducible first | exact HB.out | apply below_alloc | apply pw_below_drewN | apply below_drew1 | refine below_set ?_ GE169.out) | exact HB.out)))); have n1_ := Aside0.mk (blk_below (g := gb169) (o := .cells #[.int .i64 a0_0, .slice A0_1 l0_1.length c0_1, .slice A0_2 l0_2.length c0_2, .string a0_3, .int .i64 a0_4] 26 (0, 0)) (by (with_reducible repeat (first | refine blk_drewN ?_ _ | refine blk_drew ?_ | refine blk_alloc ?_ _)); exact BK169.out) hb); have n2_ := Aside0.mk (below_step (by repeat (first | (with_reducible first | exact HB.out | apply below_alloc | apply pw_below_drewN | apply below_drew1 | refine below_set ?_ GE169.out) | exact HB.out)) hb); clear BK169; clear HB; have HO173 := n0_; have BK169 := n1_; have HB := n2_; clear n0_ n1_ n2_; clear hb ho97; have hcz98_0 : w96.cell? ⟨gb169, 0, none⟩ = some (.int .i64 a0_0) := (blk_cell BK169.out 0).trans rfl; have hcz98_1 : w96.cell? ⟨gb169, 1, none⟩ = some (.slice A0_1 l0_1.length c0_1) := (blk_cell BK169.out 1).trans rfl; have hcz98_2 : w96.cell? ⟨gb169, 2, none⟩ = some (.slice A0_2 l0_2.length c0_2) := (blk_cell BK169.out 2).trans rfl; have hcz98_3 : w96.cell? ⟨gb169, 3, none⟩ = some (.string a0_3) := (blk_cell BK169.out 3).trans rfl; have hcz98_4 : w96.cell? ⟨gb169, 4, none⟩ = some (.int .i64 a0_4) := (blk_cell BK169.out 4).trans rfl; have hfz98_0 := blk_frozen BK169.out 0; have hfz98_1 := blk_frozen BK169.out 1; have hfz98_2 := blk_frozen BK169.out 2; have hfz98_3 := blk_frozen BK169.out 3; have hfz98_4 := blk_frozen BK169.out 4; obtain ⟨Ao99, co99, eo99⟩ := Kd.R_slice HO173.out; subst eo99) | (at_builtin; refine Kd.R_append_zeros (Kd.int .u8) (w0 := w) w.heap.size rfl (.tmp 71) (.tmp 74) 30 3 5 (.int .u8 0) 1 rfl Try.underlying30 Try.underlying3 info5 rfl (by decide) (by omega) (.slice Ao99 y171.length co99) y171 0 (ji88 : Int) (fun _ => True) rfl rfl rfl ?aF ?aO (of_decide_eq_true (by first | (with_reducible assumption) | assumption)) ?aB ?aS ?aL ?_; (case aB => exact (by repeat (first | (with_reducible first | exact HB.out | apply below_alloc | apply pw_below_drewN | apply below_drew1 | refine below_set ?_ GE169.out) | exact HB.out))); (case aF => exact (fun _ _ => trivial)); (case aO => exact (by (with_reducible repeat (first | apply Kd.R_alloc | apply Kd.R_drewN | apply Kd.R_drew)); exact HO173.out)); (case aS => exact (below_size (by repeat (first | (with_reducible first | exact HB.out | apply below_alloc | apply pw_below_drewN | apply below_drew1 | refine below_set ?_ GE169.out) | exact HB.out)))); (case aL => have := LMc90.out; omega); intro v218 w100 ho hb hg hat; rw [← Ny217.out] at ho; have n0_ := Aside0.mk (blk_grown (g := gb169) (o := .cells #[.int .i64 a0_0, .slice A0_1 l0_1.length c0_1, .slice A0_2 l0_2.length c0_2, .string a0_3, .int .i64 a0_4] 26 (0, 0)) (by (with_reducible repeat (first | refine blk_drewN ?_ _ | refine blk_drew ?_ | refine blk_alloc ?_ _)); exact BK169.out) hg (Kd.R_ne HO173.out BK169.out (by decide))); have n1_ := Aside0.mk (hb); have n2_ := Aside0.mk (ho); clear BK169; clear HB; clear HO173; have BK169 := n0_; have HB := n1_; have HO219 := n2_; clear n0_ n1_ n2_; clear ho hb hg hat; obtain ⟨Ao101, co101, eo101⟩ := Kd.R_slice HO219.out; subst eo101) | ((with_reducible refine gate_callee (f := 31) rfl ?_); refine goesL_ (some 76) rfl rfl Try.func31 (by kernel_rfl) rfl #[.slice Ao101 y217.length co101] rfl (by (try simp only [List.map_toArray, List.map_cons, List.map_nil]); first | done | rfl | (simp only [List.length_drop, List.length_take]; rfl)) ?_; (with_reducible refine (sum_Seal.calls _ _ y217 t220 _ ?side1 ?side2 A91.out).mono ?_); (case side1 => repeat (first | exact (Kd.R_reads' HO219.out).2.2 | (with_reducible refine Kd.C_alloc ?_ _) | (with_reducible refine Kd.C_drewN ?_ _) | (with_reducible refine Kd.C_drew ?_))); (case side2 => exact (Kd.R_reads' HO219.out).2.1); rintro e w102 ⟨v221, rfl, ho0, hb⟩; refine ⟨_, rfl, ?_⟩; have n0_ := Aside0.mk (Kd.R_elder' (by (with_reducible repeat (first | apply Kd.R_alloc | apply Kd.R_drewN | apply Kd.R_drew)); exact HO219.out) (Kd.R_base ho0) hb); have n1_ := Aside0.mk (Kd.R_lower (Kd.R_new' ho0 (Kd.R_lt (by (with_reducible repeat (first | apply Kd.R_alloc | apply Kd.R_drewN | apply Kd.R_drew)); exact HO219.out))) (below_size (by repeat (first | (with_reducible first | exact HB.out | apply below_alloc | apply pw_below_drewN | apply below_drew1 | refine below_set ?_ GE169.out) | exact HB.out)))); have n2_ := Aside0.mk (blk_below (g := gb169) (o := .cells #[.int .i64 a0_0, .slice A0_1 l0_1.length c0_1, .slice A0_2 l0_2.length c0_2, .string a0_3, .int .i64 a0_4] 26 (0, 0)) (by (with_reducible repeat (first | refine blk_drewN ?_ _ | refine blk_drew ?_ | refine blk_alloc ?_ _)); exact BK169.out) hb); have n3_ := Aside0.mk (below_step (by repeat (first | (with_reducible first | exact HB.out | apply below_alloc | apply pw_below_drewN | apply below_drew1 | refine below_set ?_ GE169.out) | exact HB.out)) hb); clear HO219; clear BK169; clear HB; have HO219 := n0_; have HO222 := n1_; have BK169 := n2_; have HB := n3_; clear n0_ n1_ n2_ n3_; (try clear hb); (try clear hb2); (try clear hk); (try clear hi); (try clear ho0)))
      go_ret2
      exact ⟨_, by first | rfl | (simp [errW_none, errW_some] <;> rfl) | (simp only [← hji88]; first | rfl | (simp [errW_none, errW_some] <;> rfl)) | (simp [*, errW_none, errW_some] <;> rfl), by (with_reducible repeat (first | apply Kd.R_alloc | apply Kd.R_drewN | apply Kd.R_drew)); exact Kd.R_mono HO222.out (fun _ hk => trivial), by repeat (first | (with_reducible first | exact HB.out | apply below_alloc | apply pw_below_drewN | apply below_drew1 | refine below_set ?_ GE169.out) | exact HB.out)⟩
    rw [if_pos c65] at H
    have c65b0 : (a0_0 == 3) = true := beq_iff_eq.mpr c65
    have c65b1 : (a0_0 != 3) = false := bne_eq_false_iff_eq.mpr c65
    clear c65
    replace H := Option.bind_eq_some_iff.mp H
    obtain ⟨t205, A660, H⟩ := H
    replace H : ((fix_Put16.f k t205 a0_4).bind fun t208 => (if 0 ≤ (wrap64 (252 - (t208.length : Int))) then (if t208.length + (wrap64 (252 - (t208.length : Int)) : Int).toNat < 140737488355328 then ((sum_Seal.f (t208 ++ List.replicate (wrap64 (252 - (t208.length : Int)) : Int).toNat 0)).bind fun t214 => (some (t214, 0))) else (none)) else (none))) = some (r1, r2) := H
    have A66 := Aside0.mk A660
    clear A660
    replace H := Option.bind_eq_some_iff.mp H
    obtain ⟨t208, A670, H⟩ := H
    replace H : (if 0 ≤ (wrap64 (252 - (t208.length : Int))) then (if t208.length + (wrap64 (252 - (t208.length : Int)) : Int).toNat < 140737488355328 then ((sum_Seal.f (t208 ++ List.replicate (wrap64 (252 - (t208.length : Int)) : Int).toNat 0)).bind fun t214 => (some (t214, 0))) else (none)) else (none)) = some (r1, r2) := H
    have A67 := Aside0.mk A670
    clear A670
    obtain ⟨ji68, hji68⟩ : ∃ j_ : Int, (wrap64 (252 - (t208.length : Int))) = j_ := ⟨_, rfl⟩
    replace H : (if 0 ≤ (ji68) then (if t208.length + (ji68 : Int).toNat < 140737488355328 then ((sum_Seal.f (t208 ++ List.replicate (ji68 : Int).toNat 0)).bind fun t214 => (some (t214, 0))) else (none)) else (none)) = some (r1, r2) := by first | (rw [hji68] at H; exact H) | (simp only [hji68] at H ⊢; exact H)
    (try rw [hji68] at A2)
    (try rw [hji68] at A66)
    (try rw [hji68] at A67)
    have hji68w : (IntKind.i64.wrap (252 - (t208.length : Int))) = ji68 := (i64_w _).trans hji68
    by_cases c69 : 0 ≤ (ji68)
    rotate_left
    · rw [if_neg c69] at H
      exact absurd H (by simp)
    rw [if_pos c69] at H
    have c69b0 := eq_true c69
    have c69b1 := decide_eq_true c69
    clear c69
    by_cases c70 : t208.length + (ji68 : Int).toNat < 140737488355328
    rotate_left
    · rw [if_neg c70] at H
      exact absurd H (by simp)
    rw [if_pos c70] at H
    have LMc70 := Aside0.mk c70
    clear c70
    obtain ⟨y211, hy211⟩ : ∃ y_ : List Int, y_ = (t208 ++ List.replicate (ji68 : Int).toNat 0) := ⟨_, rfl⟩
    replace H : ((sum_Seal.f y211).bind fun t214 => (some (t214, 0))) = some (r1, r2) := by first | (rw [hy211]; with_reducible exact H) | (have H2_ := (Option.bind_some _ _).symm.trans H; rw [hy211]; with_reducible exact H2_) | (have H2_ := (Option.bind_some _ _).symm.trans H; with_reducible exact H2_) | with_reducible exact H | (rw [hy211]; exact H) | exact H
    have Ny211 := Aside0.mk hy211
    clear hy211
    replace H := Option.bind_eq_some_iff.mp H
    obtain ⟨t214, A710, H⟩ := H
    replace H : (some (t214, 0)) = some (r1, r2) := H
    have A71 := Aside0.mk A710
    clear A710
    simp only [Option.some.injEq, Prod.mk.injEq] at H
    obtain ⟨rfl, rfl⟩ := H
    go_enter Try.func13, Try.ntmps13
    try go_wp2_with (first | ((with_reducible refine gate_dst (N := 1) rfl ?_); refine box_event ?hg (N := 1) ?hd (cs := #[.int .i64 a0_0, .slice A0_1 l0_1.length c0_1, .slice A0_2 l0_2.length c0_2, .string a0_3, .int .i64 a0_4]) (t := 26) ?hr ?_; (case hd => rfl); (case hg => rfl); (case hr => first | (go_simp; done) | (go_simp; rfl)); intro gb169 hg w72 hbox hb; have n0_ := Aside0.mk (below_step (by repeat (first | (with_reducible first | exact HB.out | apply below_alloc | apply pw_below_drewN | apply below_drew1) | exact HB.out)) hb); have n1_ := Aside0.mk (hbox); have n2_ := Aside0.mk ((by rw [hg]; exact (below_size (by repeat (first | (with_reducible first | exact HB.out | apply below_alloc | apply pw_below_drewN | apply below_drew1) | exact HB.out))) : w.heap.size ≤ gb169)); have n3_ := n2_; clear HB; have HB := n0_; have BK169 := n1_; have GW169 := n2_; have GE169 := n3_; clear n0_ n1_ n2_ n3_; clear hb hbox hg; have hcz73_0 : w72.cell? ⟨gb169, 0, none⟩ = some (.int .i64 a0_0) := (blk_cell BK169.out 0).trans rfl; have hcz73_1 : w72.cell? ⟨gb169, 1, none⟩ = some (.slice A0_1 l0_1.length c0_1) := (blk_cell BK169.out 1).trans rfl; have hcz73_2 : w72.cell? ⟨gb169, 2, none⟩ = some (.slice A0_2 l0_2.length c0_2) := (blk_cell BK169.out 2).trans rfl; have hcz73_3 : w72.cell? ⟨gb169, 3, none⟩ = some (.string a0_3) := (blk_cell BK169.out 3).trans rfl; have hcz73_4 : w72.cell? ⟨gb169, 4, none⟩ = some (.int .i64 a0_4) := (blk_cell BK169.out 4).trans rfl; have hfz73_0 := blk_frozen BK169.out 0; have hfz73_1 := blk_frozen BK169.out 1; have hfz73_2 := blk_frozen BK169.out 2; have hfz73_3 := blk_frozen BK169.out 3; have hfz73_4 := blk_frozen BK169.out 4) | ((with_reducible refine gate_callee (f := 14) rfl ?_); refine goesL_ (some 10) rfl rfl Try.func14 (by kernel_rfl) rfl #[.agg #[.int .i64 a0_0, .slice A0_1 l0_1.length c0_1, .slice A0_2 l0_2.length c0_2, .string a0_3, .int .i64 a0_4]] rfl (by (try simp only [List.map_toArray, List.map_cons, List.map_nil]); first | done | rfl | (simp only [List.length_drop, List.length_take]; rfl)) ?_; (with_reducible refine (page_Right.calls k a0_0 _ _ l0_1 _ _ l0_2 a0_3 a0_4 true _ ?side1 ?side2 ?side3 ?side4 A2.out).mono ?_); (case side1 => repeat (first | exact (Kd.C_below HR0_1.out HB.out) | (with_reducible refine Kd.C_alloc ?_ _) | (with_reducible refine Kd.C_drewN ?_ _) | (with_reducible refine Kd.C_drew ?_))); (case side2 => exact HC0_1.out); (case side3 => repeat (first | exact (Kd.C_below HR0_2.out HB.out) | (with_reducible refine Kd.C_alloc ?_ _) | (with_reducible refine Kd.C_drewN ?_ _) | (with_reducible refine Kd.C_drew ?_))); (case side4 => exact HC0_2.out); rintro e w74 ⟨rfl, hb⟩; refine ⟨_, rfl, ?_⟩; have n0_ := Aside0.mk (blk_below (g := gb169) (o := .cells #[.int .i64 a0_0, .slice A0_1 l0_1.length c0_1, .slice A0_2 l0_2.length c0_2, .string a0_3, .int .i64 a0_4] 26 (0, 0)) (by (with_reducible repeat (first | refine blk_drewN ?_ _ | refine blk_drew ?_ | refine blk_alloc ?_ _)); exact BK169.out) hb); have n1_ := Aside0.mk (below_step (by repeat (first | (with_reducible first | exact HB.out | apply below_alloc | apply pw_below_drewN | apply below_drew1 | refine below_set ?_ GE169.out) | exact HB.out)) hb); clear BK169; clear HB; have BK169 := n0_; have HB := n1_; clear n0_ n1_; (try clear hb); (try clear hb2); (try clear hk); (try clear hi); have hcz75_0 : w74.cell? ⟨gb169, 0, none⟩ = some (.int .i64 a0_0) := (blk_cell BK169.out 0).trans rfl; have hcz75_1 : w74.cell? ⟨gb169, 1, none⟩ = some (.slice A0_1 l0_1.length c0_1) := (blk_cell BK169.out 1).trans rfl; have hcz75_2 : w74.cell? ⟨gb169, 2, none⟩ = some (.slice A0_2 l0_2.length c0_2) := (blk_cell BK169.out 2).trans rfl; have hcz75_3 : w74.cell? ⟨gb169, 3, none⟩ = some (.string a0_3) := (blk_cell BK169.out 3).trans rfl; have hcz75_4 : w74.cell? ⟨gb169, 4, none⟩ = some (.int .i64 a0_4) := (blk_cell BK169.out 4).trans rfl; have hfz75_0 := blk_frozen BK169.out 0; have hfz75_1 := blk_frozen BK169.out 1; have hfz75_2 := blk_frozen BK169.out 2; have hfz75_3 := blk_frozen BK169.out 3; have hfz75_4 := blk_frozen BK169.out 4) | ((with_reducible refine gate_dst (N := 15) rfl ?_); refine Kd.R_lit (Kd.int .u8) _ 5 ?hg (N := 15) ?hd (xs := ([(a0_0) % 256] : List Int)) (inner := [.int .u8 ((a0_0) % 256)]) (ok := fun _ => True) (okp := fun _ => True) ?hr ?hp (fun _ hk => hk) trivial (Below.refl _ _) (Nat.le_refl _) (by simp) ?_; (case hd => rfl); (case hg => rfl); (case hr => first | (go_simp; done) | (go_simp; rfl)); (case hp => exact (Reps.one (show Kd.M (Kd.int .u8) _ _ _ ((a0_0) % 256) [.int .u8 ((a0_0) % 256)] from rfl) (Reps.none _ _))); intro v172 w76 ho77 hb hg_ hnew_; clear hg_ hnew_; (first | rw [← Ny171.out] at ho77 | (simp only [Int.reduceToNat] at ho77; rw [← Ny171.out] at ho77)); have n0_ := Aside0.mk (Kd.R_lower ho77 (below_size (by repeat (first | (with_reducible first | exact HB.out | apply below_alloc | apply pw_below_drewN | apply below_drew1 | refine below_set ?_ GE169.out) | exact HB.out)))); have n1_ := Aside0.mk (blk_below (g := gb169) (o := .cells #[.int .i64 a0_0, .slice A0_1 l0_1.length c0_1, .slice A0_2 l0_2.length c0_2, .string a0_3, .int .i64 a0_4] 26 (0, 0)) (by (with_reducible repeat (first | refine blk_drewN ?_ _ | refine blk_drew ?_ | refine blk_alloc ?_ _)); exact BK169.out) hb); have n2_ := Aside0.mk (below_step (by repeat (first | (with_reducible first | exact HB.out | apply below_alloc | apply pw_below_drewN | apply below_drew1 | refine below_set ?_ GE169.out) | exact HB.out)) hb); clear BK169; clear HB; have HO173 := n0_; have BK169 := n1_; have HB := n2_; clear n0_ n1_ n2_; clear hb ho77; have hcz78_0 : w76.cell? ⟨gb169, 0, none⟩ = some (.int .i64 a0_0) := (blk_cell BK169.out 0).trans rfl; have hcz78_1 : w76.cell? ⟨gb169, 1, none⟩ = some (.slice A0_1 l0_1.length c0_1) := (blk_cell BK169.out 1).trans rfl; have hcz78_2 : w76.cell? ⟨gb169, 2, none⟩ = some (.slice A0_2 l0_2.length c0_2) := (blk_cell BK169.out 2).trans rfl; have hcz78_3 : w76.cell? ⟨gb169, 3, none⟩ = some (.string a0_3) := (blk_cell BK169.out 3).trans rfl; have hcz78_4 : w76.cell? ⟨gb169, 4, none⟩ = some (.int .i64 a0_4) := (blk_cell BK169.out 4).trans rfl; have hfz78_0 := blk_frozen BK169.out 0; have hfz78_1 := blk_frozen BK169.out 1; have hfz78_2 := blk_frozen BK169.out 2; have hfz78_3 := blk_frozen BK169.out 3; have hfz78_4 := blk_frozen BK169.out 4))
    have n0_ := Aside0.mk (Kd.R_drew HO173.out)
    have n1_ := Aside0.mk (blk_drew BK169.out)
    have n2_ := Aside0.mk (below_drew1 HB.out)
    clear HO173
    clear BK169
    clear HB
    have HO173 := n0_
    have BK169 := n1_
    have HB := n2_
    clear n0_ n1_ n2_
    obtain ⟨Ao80, co80, eo80⟩ := Kd.R_slice HO173.out
    (first | subst eo80 | (injection eo80 with f1_ f2_ f3_; have f4_ := f1_.symm; have f5_ := f3_.symm; clear f1_ f2_ f3_; subst f4_; subst f5_))
    refine start_ (n := 8) (S := fun w' => w'.cell? ⟨gb169, 0, none⟩ = some (.int .i64 a0_0) ∧ w'.cell? ⟨gb169, 1, none⟩ = some (.slice A0_1 l0_1.length c0_1) ∧ w'.cell? ⟨gb169, 2, none⟩ = some (.slice A0_2 l0_2.length c0_2) ∧ w'.cell? ⟨gb169, 3, none⟩ = some (.string a0_3) ∧ w'.cell? ⟨gb169, 4, none⟩ = some (.int .i64 a0_4)) (ds := []) #[false, false, false, false, false, false, false, false] (by kernel_rfl) rfl rfl ⟨(blk_cell BK169.out 0).trans rfl, (blk_cell BK169.out 1).trans rfl, (blk_cell BK169.out 2).trans rfl, (blk_cell BK169.out 3).trans rfl, (blk_cell BK169.out 4).trans rfl⟩ (fun hHeld => ?_); refine with_tabW page_Encode.tab20 page_Encode.bits20 (fun HT_ HW_ => ?_)
    generalize w76.drew = w79 at HO173 BK169 HB hHeld ⊢
    refine pure_ (i := 0) (N := some 64) (v := ?_) (a' := ?_) #[true, false, false, false, false, false, false, false] rfl rfl (any_of HT_.out (by kernel_rfl)) (fun _ _ _ h => h) (Or.inl ⟨by rfl, ?_⟩) ?_ ?_
    rotate_left
    · intro w'
      go_simp
      with_reducible rfl
    rotate_left
    · simp only [Act.put, List.setIfInBounds_toArray, List.set_cons_zero, List.set_cons_succ, i64_w, i32_w]
      rfl
    refine pure_ (i := 1) (N := some 65) (v := ?_) (a' := ?_) #[true, true, false, false, false, false, false, false] rfl rfl (any_of HT_.out (by kernel_rfl)) (fun _ _ _ h => h) (Or.inl ⟨by rfl, ?_⟩) ?_ ?_
    rotate_left
    · intro w'
      go_simp
      with_reducible rfl
    rotate_left
    · simp only [Act.put, List.setIfInBounds_toArray, List.set_cons_zero, List.set_cons_succ, i64_w, i32_w]
      rfl
    refine pure_ (i := 4) (N := some 68) (v := ?_) (a' := ?_) #[true, true, false, false, true, false, false, false] rfl rfl (any_of HT_.out (by kernel_rfl)) (fun _ _ _ h => h) (Or.inl ⟨by rfl, ?_⟩) ?_ ?_
    rotate_left
    · intro w'
      go_simp
      with_reducible rfl
    rotate_left
    · simp only [Act.put, List.setIfInBounds_toArray, List.set_cons_zero, List.set_cons_succ, i64_w, i32_w]
      rfl
    refine take_ (i := 2) (N := some 66) (v := ?_) (a' := ?_) #[true, true, true, false, true, false, false, false] rfl rfl (take_ofW HT_.out HW_.out (by kernel_rfl)) (fun _ _ _ h => h) (Or.inl ⟨by rfl, ?_⟩) hHeld ?_ ?_
    rotate_left
    · rintro w' ⟨s0, s1, s2, s3, s4⟩
      go_simp
      with_reducible rfl
    rotate_left
    · simp only [Act.put, List.setIfInBounds_toArray, List.set_cons_zero, List.set_cons_succ, i64_w, i32_w]
      rfl
    refine take_ (i := 5) (N := some 69) (v := ?_) (a' := ?_) #[true, true, true, false, true, true, false, false] rfl rfl (take_ofW HT_.out HW_.out (by kernel_rfl)) (fun _ _ _ h => h) (Or.inl ⟨by rfl, ?_⟩) hHeld ?_ ?_
    rotate_left
    · rintro w' ⟨s0, s1, s2, s3, s4⟩
      go_simp
      with_reducible rfl
    rotate_left
    · simp only [Act.put, List.setIfInBounds_toArray, List.set_cons_zero, List.set_cons_succ, i64_w, i32_w]
      rfl
    refine one_ (i := 3) (N := some 67) #[true, true, true, true, true, true, false, false] rfl rfl (one_of HT_.out (by kernel_rfl)) (by decide) (fun K hK => ?_)
    refine goes_ Try.func30 (by kernel_rfl) rfl #[.slice Ao80 y171.length co80, .string a0_3] (by rfl) rfl rfl (by (try simp only [List.map_toArray, List.map_cons, List.map_nil]); first | done | rfl | (simp only [List.length_drop, List.length_take]; rfl)) ?_
    with_reducible refine (fix_PutText.calls k _ _ y171 a0_3 t205 _ ?side1 ?side2 A66.out).mono ?_
    (case side1 => repeat (first | exact (Kd.R_reads' HO173.out).2.2 | (with_reducible refine Kd.C_alloc ?_ _) | (with_reducible refine Kd.C_drewN ?_ _) | (with_reducible refine Kd.C_drew ?_)))
    (case side2 => exact (Kd.R_reads' HO173.out).2.1)
    rintro e w81 ⟨v206, rfl, ho0, hb⟩
    refine ⟨_, rfl, ?_⟩
    have n0_ := Aside0.mk (Kd.R_elder' (by (with_reducible repeat (first | apply Kd.R_alloc | apply Kd.R_drewN | apply Kd.R_drew)); exact HO173.out) (Kd.R_base ho0) hb)
    have n1_ := Aside0.mk (Kd.R_lower (Kd.R_new' ho0 (Kd.R_lt (by (with_reducible repeat (first | apply Kd.R_alloc | apply Kd.R_drewN | apply Kd.R_drew)); exact HO173.out))) (below_size (by repeat (first | (with_reducible first | exact HB.out | apply below_alloc | apply pw_below_drewN | apply below_drew1 | refine below_set ?_ GE169.out) | exact HB.out))))
    have n2_ := Aside0.mk (blk_below (g := gb169) (o := .cells #[.int .i64 a0_0, .slice A0_1 l0_1.length c0_1, .slice A0_2 l0_2.length c0_2, .string a0_3, .int .i64 a0_4] 26 (0, 0)) (by (with_reducible repeat (first | refine blk_drewN ?_ _ | refine blk_drew ?_ | refine blk_alloc ?_ _)); exact BK169.out) hb)
    have n3_ := Aside0.mk (below_step (by repeat (first | (with_reducible first | exact HB.out | apply below_alloc | apply pw_below_drewN | apply below_drew1 | refine below_set ?_ GE169.out) | exact HB.out)) hb)
    clear HO173
    clear BK169
    clear HB
    have HO173 := n0_
    have HO207 := n1_
    have BK169 := n2_
    have HB := n3_
    clear n0_ n1_ n2_ n3_
    (try clear hb)
    (try clear hb2)
    (try clear hk)
    (try clear hi)
    (try clear ho0)
    obtain ⟨Ao82, co82, eo82⟩ := Kd.R_slice HO207.out
    (first | subst eo82 | (injection eo82 with f1_ f2_ f3_; have f4_ := f1_.symm; have f5_ := f3_.symm; clear f1_ f2_ f3_; subst f4_; subst f5_))
    refine hK.out _ _ ⟨(blk_cell BK169.out 0).trans rfl, (blk_cell BK169.out 1).trans rfl, (blk_cell BK169.out 2).trans rfl, (blk_cell BK169.out 3).trans rfl, (blk_cell BK169.out 4).trans rfl⟩ (fun hHeld => ?_)
    clear hK K
    refine norm_ (a' := ?_) ?_ ?_
    rotate_left
    · show Act.put _ (some 67) _ = _
      simp only [Act.put, List.setIfInBounds_toArray, List.set_cons_zero, List.set_cons_succ, i64_w, i32_w]
      rfl
    refine one_ (i := 6) (N := some 70) #[true, true, true, true, true, true, true, false] rfl rfl (one_of HT_.out (by kernel_rfl)) (by decide) (fun K hK => ?_)
    refine goes_ Try.func29 (by kernel_rfl) rfl #[.slice Ao82 t205.length co82, .int .i64 a0_4] (by rfl) rfl rfl (by (try simp only [List.map_toArray, List.map_cons, List.map_nil]); first | done | rfl | (simp only [List.length_drop, List.length_take]; rfl)) ?_
    with_reducible refine (fix_Put16.calls k _ _ t205 a0_4 t208 _ ?side1 ?side2 A67.out).mono ?_
    (case side1 => repeat (first | exact (Kd.R_reads' HO207.out).2.2 | (with_reducible refine Kd.C_alloc ?_ _) | (with_reducible refine Kd.C_drewN ?_ _) | (with_reducible refine Kd.C_drew ?_)))
    (case side2 => exact (Kd.R_reads' HO207.out).2.1)
    rintro e w83 ⟨v209, rfl, ho0, hb⟩
    refine ⟨_, rfl, ?_⟩
    have n0_ := Aside0.mk (Kd.R_elder' (by (with_reducible repeat (first | apply Kd.R_alloc | apply Kd.R_drewN | apply Kd.R_drew)); exact HO173.out) (Kd.R_base ho0) hb)
    have n1_ := Aside0.mk (Kd.R_elder' (by (with_reducible repeat (first | apply Kd.R_alloc | apply Kd.R_drewN | apply Kd.R_drew)); exact HO207.out) (Kd.R_base ho0) hb)
    have n2_ := Aside0.mk (Kd.R_lower (Kd.R_new' (Kd.R_new' ho0 (Kd.R_lt (by (with_reducible repeat (first | apply Kd.R_alloc | apply Kd.R_drewN | apply Kd.R_drew)); exact HO173.out))) (Kd.R_lt (by (with_reducible repeat (first | apply Kd.R_alloc | apply Kd.R_drewN | apply Kd.R_drew)); exact HO207.out))) (below_size (by repeat (first | (with_reducible first | exact HB.out | apply below_alloc | apply pw_below_drewN | apply below_drew1 | refine below_set ?_ GE169.out) | exact HB.out))))
    have n3_ := Aside0.mk (blk_below (g := gb169) (o := .cells #[.int .i64 a0_0, .slice A0_1 l0_1.length c0_1, .slice A0_2 l0_2.length c0_2, .string a0_3, .int .i64 a0_4] 26 (0, 0)) (by (with_reducible repeat (first | refine blk_drewN ?_ _ | refine blk_drew ?_ | refine blk_alloc ?_ _)); exact BK169.out) hb)
    have n4_ := Aside0.mk (below_step (by repeat (first | (with_reducible first | exact HB.out | apply below_alloc | apply pw_below_drewN | apply below_drew1 | refine below_set ?_ GE169.out) | exact HB.out)) hb)
    clear HO173
    clear HO207
    clear BK169
    clear HB
    have HO173 := n0_
    have HO207 := n1_
    have HO210 := n2_
    have BK169 := n3_
    have HB := n4_
    clear n0_ n1_ n2_ n3_ n4_
    (try clear hb)
    (try clear hb2)
    (try clear hk)
    (try clear hi)
    (try clear ho0)
    refine hK.out _ _ ⟨(blk_cell BK169.out 0).trans rfl, (blk_cell BK169.out 1).trans rfl, (blk_cell BK169.out 2).trans rfl, (blk_cell BK169.out 3).trans rfl, (blk_cell BK169.out 4).trans rfl⟩ (fun hHeld => ?_)
    clear hK K
    refine norm_ (a' := ?_) ?_ ?_
    rotate_left
    · show Act.put _ (some 70) _ = _
      simp only [Act.put, List.setIfInBounds_toArray, List.set_cons_zero, List.set_cons_succ, i64_w, i32_w]
      rfl
    refine pure_ (i := 7) (N := some 4) (v := ?_) (a' := ?_) #[true, true, true, true, true, true, true, true] rfl rfl (any_of HT_.out (by kernel_rfl)) (fun _ _ _ h => h) (Or.inl ⟨by rfl, ?_⟩) ?_ ?_
    rotate_left
    · intro w'
      go_simp
      with_reducible rfl
    rotate_left
    · simp only [Act.put, List.setIfInBounds_toArray, List.set_cons_zero, List.set_cons_succ, i64_w, i32_w]
      rfl
    refine done_ (done_of HT_.out (by kernel_rfl)) ?_
    obtain ⟨Ao84, co84, eo84⟩ := Kd.R_slice HO210.out
    subst eo84
    try go_wp2_with (first | (at_builtin; refine Kd.R_append_zeros (Kd.int .u8) (w0 := w) w.heap.size rfl (.tmp 71) (.tmp 74) 30 3 5 (.int .u8 0) 1 rfl Try.underlying30 Try.underlying3 info5 rfl (by decide) (by omega) (.slice Ao84 t208.length co84) t208 0 (ji68 : Int) (fun k_ => some k_ ≠ (.slice Ao80 y171.length co80 : Value).ownBlock ∧ some k_ ≠ (.slice Ao82 t205.length co82 : Value).ownBlock) rfl rfl rfl ?aF ?aO (of_decide_eq_true (by first | (with_reducible assumption) | assumption)) ?aB ?aS ?aL ?_; (case aB => exact (by repeat (first | (with_reducible first | exact HB.out | apply below_alloc | apply pw_below_drewN | apply below_drew1 | refine below_set ?_ GE169.out) | exact HB.out))); (case aF => exact (fun k_ hk => ⟨Kd.fresh' (Kd.R_lt (by (with_reducible repeat (first | apply Kd.R_alloc | apply Kd.R_drewN | apply Kd.R_drew)); exact HO173.out)) k_ hk, Kd.fresh' (Kd.R_lt (by (with_reducible repeat (first | apply Kd.R_alloc | apply Kd.R_drewN | apply Kd.R_drew)); exact HO207.out)) k_ hk⟩)); (case aO => exact (by (with_reducible repeat (first | apply Kd.R_alloc | apply Kd.R_drewN | apply Kd.R_drew)); exact Kd.R_mono HO210.out (fun _ hk => ⟨hk.1.2, hk.2⟩))); (case aS => exact (below_size (by repeat (first | (with_reducible first | exact HB.out | apply below_alloc | apply pw_below_drewN | apply below_drew1 | refine below_set ?_ GE169.out) | exact HB.out)))); (case aL => have := LMc70.out; omega); intro v212 w85 ho hb hg hat; rw [← Ny211.out] at ho; have n0_ := Aside0.mk (blk_grown (g := gb169) (o := .cells #[.int .i64 a0_0, .slice A0_1 l0_1.length c0_1, .slice A0_2 l0_2.length c0_2, .string a0_3, .int .i64 a0_4] 26 (0, 0)) (by (with_reducible repeat (first | refine blk_drewN ?_ _ | refine blk_drew ?_ | refine blk_alloc ?_ _)); exact BK169.out) hg (Kd.R_ne HO210.out BK169.out (by decide))); have n1_ := Aside0.mk (Kd.R_after (ok := (fun k_ => some k_ ≠ (.slice Ao82 t205.length co82 : Value).ownBlock)) (by (with_reducible repeat (first | apply Kd.R_alloc | apply Kd.R_drewN | apply Kd.R_drew)); exact Kd.R_mono HO173.out (fun _ hk => ⟨hk.1.2, hk.2⟩)) hg hat); have n2_ := Aside0.mk (Kd.R_after (ok := (fun k_ => some k_ ≠ (.slice Ao80 y171.length co80 : Value).ownBlock)) (by (with_reducible repeat (first | apply Kd.R_alloc | apply Kd.R_drewN | apply Kd.R_drew)); exact Kd.R_mono HO207.out (fun _ hk => ⟨hk.1.2, hk.2⟩)) hg hat); have n3_ := Aside0.mk (hb); have n4_ := Aside0.mk (ho); clear BK169; clear HO173; clear HO207; clear HB; clear HO210; have BK169 := n0_; have HO173 := n1_; have HO207 := n2_; have HB := n3_; have HO213 := n4_; clear n0_ n1_ n2_ n3_ n4_; clear ho hb hg hat; obtain ⟨Ao86, co86, eo86⟩ := Kd.R_slice HO213.out; subst eo86) | ((with_reducible refine gate_callee (f := 31) rfl ?_); refine goesL_ (some 76) rfl rfl Try.func31 (by kernel_rfl) rfl #[.slice Ao86 y211.length co86] rfl (by (try simp only [List.map_toArray, List.map_cons, List.map_nil]); first | done | rfl | (simp only [List.length_drop, List.length_take]; rfl)) ?_; (with_reducible refine (sum_Seal.calls _ _ y211 t214 _ ?side1 ?side2 A71.out).mono ?_); (case side1 => repeat (first | exact (Kd.R_reads' HO213.out).2.2 | (with_reducible refine Kd.C_alloc ?_ _) | (with_reducible refine Kd.C_drewN ?_ _) | (with_reducible refine Kd.C_drew ?_))); (case side2 => exact (Kd.R_reads' HO213.out).2.1); rintro e w87 ⟨v215, rfl, ho0, hb⟩; refine ⟨_, rfl, ?_⟩; have n0_ := Aside0.mk (Kd.R_elder' (by (with_reducible repeat (first | apply Kd.R_alloc | apply Kd.R_drewN | apply Kd.R_drew)); exact HO173.out) (Kd.R_base ho0) hb); have n1_ := Aside0.mk (Kd.R_elder' (by (with_reducible repeat (first | apply Kd.R_alloc | apply Kd.R_drewN | apply Kd.R_drew)); exact HO207.out) (Kd.R_base ho0) hb); have n2_ := Aside0.mk (Kd.R_elder' (by (with_reducible repeat (first | apply Kd.R_alloc | apply Kd.R_drewN | apply Kd.R_drew)); exact HO213.out) (Kd.R_base ho0) hb); have n3_ := Aside0.mk (Kd.R_lower (Kd.R_new' (Kd.R_new' (Kd.R_new' ho0 (Kd.R_lt (by (with_reducible repeat (first | apply Kd.R_alloc | apply Kd.R_drewN | apply Kd.R_drew)); exact HO173.out))) (Kd.R_lt (by (with_reducible repeat (first | apply Kd.R_alloc | apply Kd.R_drewN | apply Kd.R_drew)); exact HO207.out))) (Kd.R_lt (by (with_reducible repeat (first | apply Kd.R_alloc | apply Kd.R_drewN | apply Kd.R_drew)); exact HO213.out))) (below_size (by repeat (first | (with_reducible first | exact HB.out | apply below_alloc | apply pw_below_drewN | apply below_drew1 | refine below_set ?_ GE169.out) | exact HB.out)))); have n4_ := Aside0.mk (blk_below (g := gb169) (o := .cells #[.int .i64 a0_0, .slice A0_1 l0_1.length c0_1, .slice A0_2 l0_2.length c0_2, .string a0_3, .int .i64 a0_4] 26 (0, 0)) (by (with_reducible repeat (first | refine blk_drewN ?_ _ | refine blk_drew ?_ | refine blk_alloc ?_ _)); exact BK169.out) hb); have n5_ := Aside0.mk (below_step (by repeat (first | (with_reducible first | exact HB.out | apply below_alloc | apply pw_below_drewN | apply below_drew1 | refine below_set ?_ GE169.out) | exact HB.out)) hb); clear HO173; clear HO207; clear HO213; clear BK169; clear HB; have HO173 := n0_; have HO207 := n1_; have HO213 := n2_; have HO216 := n3_; have BK169 := n4_; have HB := n5_; clear n0_ n1_ n2_ n3_ n4_ n5_; (try clear hb); (try clear hb2); (try clear hk); (try clear hi); (try clear ho0)))
    go_ret2
    exact ⟨_, by first | rfl | (simp [errW_none, errW_some] <;> rfl) | (simp only [← hji68]; first | rfl | (simp [errW_none, errW_some] <;> rfl)) | (simp [*, errW_none, errW_some] <;> rfl), by (with_reducible repeat (first | apply Kd.R_alloc | apply Kd.R_drewN | apply Kd.R_drew)); exact Kd.R_mono HO216.out (fun _ hk => trivial), by repeat (first | (with_reducible first | exact HB.out | apply below_alloc | apply pw_below_drewN | apply below_drew1 | refine below_set ?_ GE169.out) | exact HB.out)⟩
  rw [if_pos c32] at H
  have c32b0 : (a0_0 == 2) = true := beq_iff_eq.mpr c32
  have c32b1 : (a0_0 != 2) = false := bne_eq_false_iff_eq.mpr c32
  clear c32
  by_cases c33 : y171.length < 140737488355328
  rotate_left
  · rw [if_neg c33] at H
    exact absurd H (by simp)
  rw [if_pos c33] at H
  have LMc33 := Aside0.mk c33
  clear c33
  obtain ⟨y188, hy188⟩ : ∃ y_ : List Int, y_ = (y171 ++ [((l0_2.length : Int)) % 256]) := ⟨_, rfl⟩
  replace H : (page_Encode.l1 k y188 l0_2 (l0_2.length : Int) 0) = some (r1, r2) := by first | (rw [hy188]; with_reducible exact H) | (have H2_ := (Option.bind_some _ _).symm.trans H; rw [hy188]; with_reducible exact H2_) | (have H2_ := (Option.bind_some _ _).symm.trans H; with_reducible exact H2_) | with_reducible exact H | (rw [hy188]; exact H) | exact H
  have Ny188 := Aside0.mk hy188
  clear hy188
  have H' := Aside0.mk H
  clear H
  go_enter Try.func13, Try.ntmps13
  go_wp2_with (first | ((with_reducible refine gate_dst (N := 1) rfl ?_); refine box_event ?hg (N := 1) ?hd (cs := #[.int .i64 a0_0, .slice A0_1 l0_1.length c0_1, .slice A0_2 l0_2.length c0_2, .string a0_3, .int .i64 a0_4]) (t := 26) ?hr ?_; (case hd => rfl); (case hg => rfl); (case hr => first | (go_simp; done) | (go_simp; rfl)); intro gb169 hg w34 hbox hb; have n0_ := Aside0.mk (below_step (by repeat (first | (with_reducible first | exact HB.out | apply below_alloc | apply pw_below_drewN | apply below_drew1) | exact HB.out)) hb); have n1_ := Aside0.mk (hbox); have n2_ := Aside0.mk ((by rw [hg]; exact (below_size (by repeat (first | (with_reducible first | exact HB.out | apply below_alloc | apply pw_below_drewN | apply below_drew1) | exact HB.out))) : w.heap.size ≤ gb169)); have n3_ := n2_; clear HB; have HB := n0_; have BK169 := n1_; have GW169 := n2_; have GE169 := n3_; clear n0_ n1_ n2_ n3_; clear hb hbox hg; have hcz35_0 : w34.cell? ⟨gb169, 0, none⟩ = some (.int .i64 a0_0) := (blk_cell BK169.out 0).trans rfl; have hcz35_1 : w34.cell? ⟨gb169, 1, none⟩ = some (.slice A0_1 l0_1.length c0_1) := (blk_cell BK169.out 1).trans rfl; have hcz35_2 : w34.cell? ⟨gb169, 2, none⟩ = some (.slice A0_2 l0_2.length c0_2) := (blk_cell BK169.out 2).trans rfl; have hcz35_3 : w34.cell? ⟨gb169, 3, none⟩ = some (.string a0_3) := (blk_cell BK169.out 3).trans rfl; have hcz35_4 : w34.cell? ⟨gb169, 4, none⟩ = some (.int .i64 a0_4) := (blk_cell BK169.out 4).trans rfl; have hfz35_0 := blk_frozen BK169.out 0; have hfz35_1 := blk_frozen BK169.out 1; have hfz35_2 := blk_frozen BK169.out 2; have hfz35_3 := blk_frozen BK169.out 3; have hfz35_4 := blk_frozen BK169.out 4) | ((with_reducible refine gate_callee (f := 14) rfl ?_); refine goesL_ (some 10) rfl rfl Try.func14 (by kernel_rfl) rfl #[.agg #[.int .i64 a0_0, .slice A0_1 l0_1.length c0_1, .slice A0_2 l0_2.length c0_2, .string a0_3, .int .i64 a0_4]] rfl (by (try simp only [List.map_toArray, List.map_cons, List.map_nil]); first | done | rfl | (simp only [List.length_drop, List.length_take]; rfl)) ?_; (with_reducible refine (page_Right.calls k a0_0 _ _ l0_1 _ _ l0_2 a0_3 a0_4 true _ ?side1 ?side2 ?side3 ?side4 A2.out).mono ?_); (case side1 => repeat (first | exact (Kd.C_below HR0_1.out HB.out) | (with_reducible refine Kd.C_alloc ?_ _) | (with_reducible refine Kd.C_drewN ?_ _) | (with_reducible refine Kd.C_drew ?_))); (case side2 => exact HC0_1.out); (case side3 => repeat (first | exact (Kd.C_below HR0_2.out HB.out) | (with_reducible refine Kd.C_alloc ?_ _) | (with_reducible refine Kd.C_drewN ?_ _) | (with_reducible refine Kd.C_drew ?_))); (case side4 => exact HC0_2.out); rintro e w36 ⟨rfl, hb⟩; refine ⟨_, rfl, ?_⟩; have n0_ := Aside0.mk (blk_below (g := gb169) (o := .cells #[.int .i64 a0_0, .slice A0_1 l0_1.length c0_1, .slice A0_2 l0_2.length c0_2, .string a0_3, .int .i64 a0_4] 26 (0, 0)) (by (with_reducible repeat (first | refine blk_drewN ?_ _ | refine blk_drew ?_ | refine blk_alloc ?_ _)); exact BK169.out) hb); have n1_ := Aside0.mk (below_step (by repeat (first | (with_reducible first | exact HB.out | apply below_alloc | apply pw_below_drewN | apply below_drew1 | refine below_set ?_ GE169.out) | exact HB.out)) hb); clear BK169; clear HB; have BK169 := n0_; have HB := n1_; clear n0_ n1_; (try clear hb); (try clear hb2); (try clear hk); (try clear hi); have hcz37_0 : w36.cell? ⟨gb169, 0, none⟩ = some (.int .i64 a0_0) := (blk_cell BK169.out 0).trans rfl; have hcz37_1 : w36.cell? ⟨gb169, 1, none⟩ = some (.slice A0_1 l0_1.length c0_1) := (blk_cell BK169.out 1).trans rfl; have hcz37_2 : w36.cell? ⟨gb169, 2, none⟩ = some (.slice A0_2 l0_2.length c0_2) := (blk_cell BK169.out 2).trans rfl; have hcz37_3 : w36.cell? ⟨gb169, 3, none⟩ = some (.string a0_3) := (blk_cell BK169.out 3).trans rfl; have hcz37_4 : w36.cell? ⟨gb169, 4, none⟩ = some (.int .i64 a0_4) := (blk_cell BK169.out 4).trans rfl; have hfz37_0 := blk_frozen BK169.out 0; have hfz37_1 := blk_frozen BK169.out 1; have hfz37_2 := blk_frozen BK169.out 2; have hfz37_3 := blk_frozen BK169.out 3; have hfz37_4 := blk_frozen BK169.out 4) | ((with_reducible refine gate_dst (N := 15) rfl ?_); refine Kd.R_lit (Kd.int .u8) _ 5 ?hg (N := 15) ?hd (xs := ([(a0_0) % 256] : List Int)) (inner := [.int .u8 ((a0_0) % 256)]) (ok := fun _ => True) (okp := fun _ => True) ?hr ?hp (fun _ hk => hk) trivial (Below.refl _ _) (Nat.le_refl _) (by simp) ?_; (case hd => rfl); (case hg => rfl); (case hr => first | (go_simp; done) | (go_simp; rfl)); (case hp => exact (Reps.one (show Kd.M (Kd.int .u8) _ _ _ ((a0_0) % 256) [.int .u8 ((a0_0) % 256)] from rfl) (Reps.none _ _))); intro v172 w38 ho39 hb hg_ hnew_; clear hg_ hnew_; (first | rw [← Ny171.out] at ho39 | (simp only [Int.reduceToNat] at ho39; rw [← Ny171.out] at ho39)); have n0_ := Aside0.mk (Kd.R_lower ho39 (below_size (by repeat (first | (with_reducible first | exact HB.out | apply below_alloc | apply pw_below_drewN | apply below_drew1 | refine below_set ?_ GE169.out) | exact HB.out)))); have n1_ := Aside0.mk (blk_below (g := gb169) (o := .cells #[.int .i64 a0_0, .slice A0_1 l0_1.length c0_1, .slice A0_2 l0_2.length c0_2, .string a0_3, .int .i64 a0_4] 26 (0, 0)) (by (with_reducible repeat (first | refine blk_drewN ?_ _ | refine blk_drew ?_ | refine blk_alloc ?_ _)); exact BK169.out) hb); have n2_ := Aside0.mk (below_step (by repeat (first | (with_reducible first | exact HB.out | apply below_alloc | apply pw_below_drewN | apply below_drew1 | refine below_set ?_ GE169.out) | exact HB.out)) hb); clear BK169; clear HB; have HO173 := n0_; have BK169 := n1_; have HB := n2_; clear n0_ n1_ n2_; clear hb ho39; have hcz40_0 : w38.cell? ⟨gb169, 0, none⟩ = some (.int .i64 a0_0) := (blk_cell BK169.out 0).trans rfl; have hcz40_1 : w38.cell? ⟨gb169, 1, none⟩ = some (.slice A0_1 l0_1.length c0_1) := (blk_cell BK169.out 1).trans rfl; have hcz40_2 : w38.cell? ⟨gb169, 2, none⟩ = some (.slice A0_2 l0_2.length c0_2) := (blk_cell BK169.out 2).trans rfl; have hcz40_3 : w38.cell? ⟨gb169, 3, none⟩ = some (.string a0_3) := (blk_cell BK169.out 3).trans rfl; have hcz40_4 : w38.cell? ⟨gb169, 4, none⟩ = some (.int .i64 a0_4) := (blk_cell BK169.out 4).trans rfl; have hfz40_0 := blk_frozen BK169.out 0; have hfz40_1 := blk_frozen BK169.out 1; have hfz40_2 := blk_frozen BK169.out 2; have hfz40_3 := blk_frozen BK169.out 3; have hfz40_4 := blk_frozen BK169.out 4) | ((with_reducible refine gate_builtin (b := .append) (xs := #[.tmp 40, .tmp 45]) rfl ?_); at_builtin; refine Kd.R_append (Kd.int .u8) (w0 := w) w.heap.size rfl (.tmp 40) (.tmp 45) 30 5 (.int .u8 0) 1 rfl Try.underlying30 info5 rfl (by decide) (by omega) v172 y171 (((l0_2.length : Int)) % 256) [.int .u8 (((l0_2.length : Int)) % 256)] (fun _ => True) (fun _ => False) rfl rfl ?aP (fun _ hk => hk.elim) ?aF ?aO ?aB ?aS ?aL ?_; (case aP => exact rfl); (case aB => exact (by repeat (first | (with_reducible first | exact HB.out | apply below_alloc | apply pw_below_drewN | apply below_drew1 | refine below_set ?_ GE169.out) | exact HB.out))); (case aF => exact (fun _ _ => trivial)); (case aO => exact (by (with_reducible repeat (first | apply Kd.R_alloc | apply Kd.R_drewN | apply Kd.R_drew)); exact HO173.out)); (case aS => exact (below_size (by repeat (first | (with_reducible first | exact HB.out | apply below_alloc | apply pw_below_drewN | apply below_drew1 | refine below_set ?_ GE169.out) | exact HB.out)))); (case aL => have := LMc33.out; omega); intro v189 w41 ho hb hg hat; rw [← Ny188.out] at ho; have n0_ := Aside0.mk (blk_grown (g := gb169) (o := .cells #[.int .i64 a0_0, .slice A0_1 l0_1.length c0_1, .slice A0_2 l0_2.length c0_2, .string a0_3, .int .i64 a0_4] 26 (0, 0)) (by (with_reducible repeat (first | refine blk_drewN ?_ _ | refine blk_drew ?_ | refine blk_alloc ?_ _)); exact BK169.out) hg (Kd.R_ne HO173.out BK169.out (by decide))); have n1_ := Aside0.mk (hb); have n2_ := Aside0.mk (ho); clear BK169; clear HB; clear HO173; have BK169 := n0_; have HB := n1_; have HO190 := n2_; clear n0_ n1_ n2_; clear ho hb hg hat; have hcz42_0 : w41.cell? ⟨gb169, 0, none⟩ = some (.int .i64 a0_0) := (blk_cell BK169.out 0).trans rfl; have hcz42_1 : w41.cell? ⟨gb169, 1, none⟩ = some (.slice A0_1 l0_1.length c0_1) := (blk_cell BK169.out 1).trans rfl; have hcz42_2 : w41.cell? ⟨gb169, 2, none⟩ = some (.slice A0_2 l0_2.length c0_2) := (blk_cell BK169.out 2).trans rfl; have hcz42_3 : w41.cell? ⟨gb169, 3, none⟩ = some (.string a0_3) := (blk_cell BK169.out 3).trans rfl; have hcz42_4 : w41.cell? ⟨gb169, 4, none⟩ = some (.int .i64 a0_4) := (blk_cell BK169.out 4).trans rfl; have hfz42_0 := blk_frozen BK169.out 0; have hfz42_1 := blk_frozen BK169.out 1; have hfz42_2 := blk_frozen BK169.out 2; have hfz42_3 := blk_frozen BK169.out 3; have hfz42_4 := blk_frozen BK169.out 4))
  go_loopg [4, 50] k (fun kq v4 v50 w' => ∃ (x4_1 : List Int) (x50_1 : Int), v50 = .int .i64 x50_1 ∧ Aside0 (page_Encode.l1 kq x4_1 l0_2 (l0_2.length : Int) x50_1 = some (r1, r2)) ∧ Aside0 (kq ≤ k) ∧ Aside0 (Kd.R (Kd.int .u8) 5 w' w.heap.size (fun _ => True) v4 x4_1) ∧ Aside0 (w'.heap[gb169]? = some (.cells #[.int .i64 a0_0, (.slice A0_1 l0_1.length c0_1), (.slice A0_2 l0_2.length c0_2), .string a0_3, .int .i64 a0_4] 26 (0, 0))) ∧ Aside0 (Below w.heap.size w w'))
  case atStart => exact ⟨(y188), (0), (by first | rfl | (simp; done) | (simp [*]; done)), H', ⟨Nat.le_refl _⟩, ⟨by (with_reducible repeat (first | apply Kd.R_alloc | apply Kd.R_drewN | apply Kd.R_drew)); exact HO190.out⟩, ⟨by (with_reducible repeat (first | refine blk_drewN ?_ _ | refine blk_drew ?_ | refine blk_alloc ?_ _)); exact BK169.out⟩, ⟨by repeat (first | (with_reducible first | exact HB.out | apply below_alloc | apply pw_below_drewN | apply below_drew1 | refine below_set ?_ GE169.out) | exact HB.out)⟩⟩
  case round =>
    clear H'
    try clear c1
    try clear p1
    try clear q1
    try clear hx1
    try clear c2
    try clear p2
    try clear c3
    try clear c4
    try clear c4b0
    try clear c4b1
    try clear c5
    try clear p6
    try clear c13
    try clear c14
    try clear c15
    try clear c15b0
    try clear c16
    try clear c16b0
    try clear c17
    try clear c17b0
    try clear p17
    try clear q17
    try clear hx17
    try clear c20
    try clear c25
    try clear c25b0
    try clear c25b1
    try clear c26
    try clear c28
    try clear c31
    try clear c32
    try clear c32b0
    try clear c32b1
    try clear c33
    try clear hcz12_0
    try clear hcz12_1
    try clear hcz12_2
    try clear hcz12_3
    try clear hcz12_4
    try clear hcz14_0
    try clear hcz14_1
    try clear hcz14_2
    try clear hcz14_3
    try clear hcz14_4
    try clear hcz21_0
    try clear hcz21_1
    try clear hcz21_2
    try clear hcz21_3
    try clear hcz35_0
    try clear hcz35_1
    try clear hcz35_2
    try clear hcz35_3
    try clear hcz35_4
    try clear hcz37_0
    try clear hcz37_1
    try clear hcz37_2
    try clear hcz37_3
    try clear hcz37_4
    try clear hcz40_0
    try clear hcz40_1
    try clear hcz40_2
    try clear hcz40_3
    try clear hcz40_4
    try clear hcz42_0
    try clear hcz42_1
    try clear hcz42_2
    try clear hcz42_3
    try clear hcz42_4
    try clear hcz7_0
    try clear hcz7_1
    try clear hcz7_2
    try clear hcz7_3
    try clear hcz7_4
    try clear hcz9_0
    try clear hcz9_1
    try clear hcz9_2
    try clear hcz9_3
    try clear hcz9_4
    try clear hfz12_0
    try clear hfz12_1
    try clear hfz12_2
    try clear hfz12_3
    try clear hfz12_4
    try clear hfz14_0
    try clear hfz14_1
    try clear hfz14_2
    try clear hfz14_3
    try clear hfz14_4
    try clear hfz21_0
    try clear hfz21_1
    try clear hfz21_2
    try clear hfz21_3
    try clear hfz35_0
    try clear hfz35_1
    try clear hfz35_2
    try clear hfz35_3
    try clear hfz35_4
    try clear hfz37_0
    try clear hfz37_1
    try clear hfz37_2
    try clear hfz37_3
    try clear hfz37_4
    try clear hfz40_0
    try clear hfz40_1
    try clear hfz40_2
    try clear hfz40_3
    try clear hfz40_4
    try clear hfz42_0
    try clear hfz42_1
    try clear hfz42_2
    try clear hfz42_3
    try clear hfz42_4
    try clear hfz7_0
    try clear hfz7_1
    try clear hfz7_2
    try clear hfz7_3
    try clear hfz7_4
    try clear hfz9_0
    try clear hfz9_1
    try clear hfz9_2
    try clear hfz9_3
    try clear hfz9_4
    try clear hx177_0
    try clear hx177_1
    try clear hx177_2
    try clear hx177_3
    try clear p177
    try clear p2
    try clear p6
    try clear q177
    obtain ⟨x4_1, x50_1, rfl, HA, HK1, HO_4, BK169, HB⟩ := hrel
    cases gk with
    | zero => exact absurd HA.out (by simp [page_Encode.l1])
    | succ k1 =>
      have H := HA.out
      clear HA
      simp only [page_Encode.l1] at H
      by_cases c43 : x50_1 < (l0_2.length : Int)
      rotate_left
      · rw [if_neg c43] at H
        have c43b0 : decide (x50_1 < (l0_2.length : Int)) = false := decide_eq_false c43
        clear c43
        obtain ⟨ji57, hji57⟩ : ∃ j_ : Int, (wrap64 (252 - (x4_1.length : Int))) = j_ := ⟨_, rfl⟩
        replace H : (if 0 ≤ (ji57) then (if x4_1.length + (ji57 : Int).toNat < 140737488355328 then ((sum_Seal.f (x4_1 ++ List.replicate (ji57 : Int).toNat 0)).bind fun t202 => (some (t202, 0))) else (none)) else (none)) = some (r1, r2) := by first | (rw [hji57] at H; exact H) | (simp only [hji57] at H ⊢; exact H)
        have hji57w : (IntKind.i64.wrap (252 - (x4_1.length : Int))) = ji57 := (i64_w _).trans hji57
        by_cases c58 : 0 ≤ (ji57)
        rotate_left
        · rw [if_neg c58] at H
          exact absurd H (by simp)
        rw [if_pos c58] at H
        have c58b0 := eq_true c58
        have c58b1 := decide_eq_true c58
        clear c58
        by_cases c59 : x4_1.length + (ji57 : Int).toNat < 140737488355328
        rotate_left
        · rw [if_neg c59] at H
          exact absurd H (by simp)
        rw [if_pos c59] at H
        have LMc59 := Aside0.mk c59
        clear c59
        obtain ⟨y199, hy199⟩ : ∃ y_ : List Int, y_ = (x4_1 ++ List.replicate (ji57 : Int).toNat 0) := ⟨_, rfl⟩
        replace H : ((sum_Seal.f y199).bind fun t202 => (some (t202, 0))) = some (r1, r2) := by first | (rw [hy199]; with_reducible exact H) | (have H2_ := (Option.bind_some _ _).symm.trans H; rw [hy199]; with_reducible exact H2_) | (have H2_ := (Option.bind_some _ _).symm.trans H; with_reducible exact H2_) | with_reducible exact H | (rw [hy199]; exact H) | exact H
        have Ny199 := Aside0.mk hy199
        clear hy199
        replace H := Option.bind_eq_some_iff.mp H
        obtain ⟨t202, A600, H⟩ := H
        replace H : (some (t202, 0)) = some (r1, r2) := H
        have A60 := Aside0.mk A600
        clear A600
        simp only [Option.some.injEq, Prod.mk.injEq] at H
        obtain ⟨rfl, rfl⟩ := H
        obtain ⟨Ao61, co61, eo61⟩ := Kd.R_slice HO_4.out
        subst eo61
        go_wp2_with (first | (at_builtin; refine Kd.R_append_zeros (Kd.int .u8) (w0 := w) w.heap.size rfl (.tmp 71) (.tmp 74) 30 3 5 (.int .u8 0) 1 rfl Try.underlying30 Try.underlying3 info5 rfl (by decide) (by omega) (.slice Ao61 x4_1.length co61) x4_1 0 (ji57 : Int) (fun _ => True) rfl rfl rfl ?aF ?aO (of_decide_eq_true (by first | (with_reducible assumption) | assumption)) ?aB ?aS ?aL ?_; (case aB => exact (by repeat (first | (with_reducible first | exact HB.out | apply below_alloc | apply pw_below_drewN | apply below_drew1 | refine below_set ?_ GE169.out) | exact HB.out))); (case aF => exact (fun _ _ => trivial)); (case aO => exact (by (with_reducible repeat (first | apply Kd.R_alloc | apply Kd.R_drewN | apply Kd.R_drew)); exact HO_4.out)); (case aS => exact (below_size (by repeat (first | (with_reducible first | exact HB.out | apply below_alloc | apply pw_below_drewN | apply below_drew1 | refine below_set ?_ GE169.out) | exact HB.out)))); (case aL => have := LMc59.out; omega); intro v200 w62 ho hb hg hat; rw [← Ny199.out] at ho; have n0_ := Aside0.mk (blk_grown (g := gb169) (o := .cells #[.int .i64 a0_0, .slice A0_1 l0_1.length c0_1, .slice A0_2 l0_2.length c0_2, .string a0_3, .int .i64 a0_4] 26 (0, 0)) (by (with_reducible repeat (first | refine blk_drewN ?_ _ | refine blk_drew ?_ | refine blk_alloc ?_ _)); exact BK169.out) hg (Kd.R_ne HO_4.out BK169.out (by decide))); have n1_ := Aside0.mk (hb); have n2_ := Aside0.mk (ho); clear BK169; clear HB; clear HO_4; have BK169 := n0_; have HB := n1_; have HO201 := n2_; clear n0_ n1_ n2_; clear ho hb hg hat; obtain ⟨Ao63, co63, eo63⟩ := Kd.R_slice HO201.out; subst eo63) | ((with_reducible refine gate_callee (f := 31) rfl ?_); refine goesL_ (some 76) rfl rfl Try.func31 (by kernel_rfl) rfl #[.slice Ao63 y199.length co63] rfl (by (try simp only [List.map_toArray, List.map_cons, List.map_nil]); first | done | rfl | (simp only [List.length_drop, List.length_take]; rfl)) ?_; (with_reducible refine (sum_Seal.calls _ _ y199 t202 _ ?side1 ?side2 A60.out).mono ?_); (case side1 => repeat (first | exact (Kd.R_reads' HO201.out).2.2 | (with_reducible refine Kd.C_alloc ?_ _) | (with_reducible refine Kd.C_drewN ?_ _) | (with_reducible refine Kd.C_drew ?_))); (case side2 => exact (Kd.R_reads' HO201.out).2.1); rintro e w64 ⟨v203, rfl, ho0, hb⟩; refine ⟨_, rfl, ?_⟩; have n0_ := Aside0.mk (Kd.R_elder' (by (with_reducible repeat (first | apply Kd.R_alloc | apply Kd.R_drewN | apply Kd.R_drew)); exact HO201.out) (Kd.R_base ho0) hb); have n1_ := Aside0.mk (Kd.R_lower (Kd.R_new' ho0 (Kd.R_lt (by (with_reducible repeat (first | apply Kd.R_alloc | apply Kd.R_drewN | apply Kd.R_drew)); exact HO201.out))) (below_size (by repeat (first | (with_reducible first | exact HB.out | apply below_alloc | apply pw_below_drewN | apply below_drew1 | refine below_set ?_ GE169.out) | exact HB.out)))); have n2_ := Aside0.mk (blk_below (g := gb169) (o := .cells #[.int .i64 a0_0, .slice A0_1 l0_1.length c0_1, .slice A0_2 l0_2.length c0_2, .string a0_3, .int .i64 a0_4] 26 (0, 0)) (by (with_reducible repeat (first | refine blk_drewN ?_ _ | refine blk_drew ?_ | refine blk_alloc ?_ _)); exact BK169.out) hb); have n3_ := Aside0.mk (below_step (by repeat (first | (with_reducible first | exact HB.out | apply below_alloc | apply pw_below_drewN | apply below_drew1 | refine below_set ?_ GE169.out) | exact HB.out)) hb); clear HO201; clear BK169; clear HB; have HO201 := n0_; have HO204 := n1_; have BK169 := n2_; have HB := n3_; clear n0_ n1_ n2_ n3_; (try clear hb); (try clear hb2); (try clear hk); (try clear hi); (try clear ho0)))
        go_ret2
        exact ⟨_, by first | rfl | (simp [errW_none, errW_some] <;> rfl) | (simp only [← hji57]; first | rfl | (simp [errW_none, errW_some] <;> rfl)) | (simp [*, errW_none, errW_some] <;> rfl), by (with_reducible repeat (first | apply Kd.R_alloc | apply Kd.R_drewN | apply Kd.R_drew)); exact Kd.R_mono HO204.out (fun _ hk => trivial), by repeat (first | (with_reducible first | exact HB.out | apply below_alloc | apply pw_below_drewN | apply below_drew1 | refine below_set ?_ GE169.out) | exact HB.out)⟩
      rw [if_pos c43] at H
      have c43b0 := decide_eq_true c43
      clear c43
      by_cases c44 : 0 ≤ x50_1
      rotate_left
      · rw [if_neg c44] at H
        exact absurd H (by simp)
      rw [if_pos c44] at H
      have c44b0 := decide_eq_true c44
      clear c44
      by_cases c45 : x50_1 < (l0_2.length : Int)
      rotate_left
      · rw [if_neg c45] at H
        exact absurd H (by simp)
      rw [if_pos c45] at H
      have c45b0 := decide_eq_true c45
      clear c45
      replace H := Option.bind_eq_some_iff.mp H
      obtain ⟨t193, A460, H⟩ := H
      replace H : ((fix_Put16.f k1 t193 ((rd_T61 l0_2 x50_1).f1)).bind fun t196 => (page_Encode.l1 k1 t196 l0_2 (l0_2.length : Int) (wrap64 (x50_1 + 1)))) = some (r1, r2) := H
      have A46 := Aside0.mk A460
      clear A460
      replace H := Option.bind_eq_some_iff.mp H
      obtain ⟨t196, A470, H⟩ := H
      replace H : (page_Encode.l1 k1 t196 l0_2 (l0_2.length : Int) (wrap64 (x50_1 + 1))) = some (r1, r2) := H
      have A47 := Aside0.mk A470
      clear A470
      have H' := Aside0.mk H
      clear H
      have p191 : 0 ≤ (x50_1 : Int) := of_decide_eq_true (by first | (with_reducible assumption) | assumption)
      have q191 : x50_1 < (l0_2.length : Int) := of_decide_eq_true (by first | (with_reducible assumption) | assumption)
      obtain ⟨ad191, e191, hx191_0, hx191_1⟩ := at_T61 HR0_2.out x50_1 p191 q191
      cases e191
      replace hx191_0 := (HB.out.cell (World.block_lt_of_cell? w _ hx191_0)).trans hx191_0
      replace hx191_1 := (HB.out.cell (World.block_lt_of_cell? w _ hx191_1)).trans hx191_1
      replace p191 := eq_true p191
      replace q191 := eq_true q191
      try go_wp2_with (first | ((with_reducible refine gate_dst (N := 8) rfl ?_); refine box_event ?hg (N := 8) ?hd (cs := #[.string (⟨#[]⟩ : ByteArray), .int .i64 0]) (t := 61) ?hr ?_; (case hd => rfl); (case hg => rfl); (case hr => first | (go_simp; done) | (go_simp; rfl)); intro gb192 hg w48 hbox hb; have n0_ := Aside0.mk (Kd.R_below (by (with_reducible repeat (first | apply Kd.R_alloc | apply Kd.R_drewN | apply Kd.R_drew)); exact HO_4.out) hb); have n1_ := Aside0.mk (blk_below (g := gb169) (o := .cells #[.int .i64 a0_0, .slice A0_1 l0_1.length c0_1, .slice (some ad191) l0_2.length c0_2, .string a0_3, .int .i64 a0_4] 26 (0, 0)) (by (with_reducible repeat (first | refine blk_drewN ?_ _ | refine blk_drew ?_ | refine blk_alloc ?_ _)); exact BK169.out) hb); have n2_ := Aside0.mk (below_step (by repeat (first | (with_reducible first | exact HB.out | apply below_alloc | apply pw_below_drewN | apply below_drew1 | refine below_set ?_ GE169.out) | exact HB.out)) hb); have n3_ := Aside0.mk (hbox); have n4_ := Aside0.mk ((by rw [hg]; exact (below_size (by repeat (first | (with_reducible first | exact HB.out | apply below_alloc | apply pw_below_drewN | apply below_drew1 | refine below_set ?_ GE169.out) | exact HB.out))) : w.heap.size ≤ gb192)); have n5_ := n4_; have n6_ := Aside0.mk ((by rw [hg]; exact Nat.ne_of_lt (blk_lt (g := gb169) (o := .cells #[.int .i64 a0_0, .slice A0_1 l0_1.length c0_1, .slice (some ad191) l0_2.length c0_2, .string a0_3, .int .i64 a0_4] 26 (0, 0)) (by (with_reducible repeat (first | refine blk_drewN ?_ _ | refine blk_drew ?_ | refine blk_alloc ?_ _)); exact BK169.out)) : gb169 ≠ gb192)); have n7_ := Aside0.mk ((by rw [hg]; exact Nat.ne_of_gt (blk_lt (g := gb169) (o := .cells #[.int .i64 a0_0, .slice A0_1 l0_1.length c0_1, .slice (some ad191) l0_2.length c0_2, .string a0_3, .int .i64 a0_4] 26 (0, 0)) (by (with_reducible repeat (first | refine blk_drewN ?_ _ | refine blk_drew ?_ | refine blk_alloc ?_ _)); exact BK169.out)) : gb192 ≠ gb169)); clear HO_4; clear BK169; clear HB; have HO_4 := n0_; have BK169 := n1_; have HB := n2_; have BK192 := n3_; have GW192 := n4_; have GE192 := n5_; have NB169_192 := n6_; have NB192_169 := n7_; clear n0_ n1_ n2_ n3_ n4_ n5_ n6_ n7_; clear hb hbox hg; have hnb49 := NB192_169.out; have hnc49 := NB169_192.out; have hcz50_0 : w48.cell? ⟨gb192, 0, none⟩ = some (.string (⟨#[]⟩ : ByteArray)) := (blk_cell BK192.out 0).trans rfl; have hcz50_1 : w48.cell? ⟨gb192, 1, none⟩ = some (.int .i64 0) := (blk_cell BK192.out 1).trans rfl; have hfz50_0 := blk_frozen BK192.out 0; have hfz50_1 := blk_frozen BK192.out 1))
      have n0_ : Aside0 (Kd.R (Kd.int .u8) 5 ((w48.setCell ⟨gb192, 0, none⟩ (.string ((rd_T61 l0_2 x50_1).f0))).setCell ⟨gb192, 1, none⟩ (.int .i64 ((rd_T61 l0_2 x50_1).f1))) w.heap.size (fun _ => True) u4 x4_1) := ⟨by (with_reducible repeat (first | apply Kd.R_alloc | apply Kd.R_drewN | apply Kd.R_drew)); exact Kd.R_mono (Kd.R_far (p := ⟨gb192, 1, none⟩) (Kd.R_far (p := ⟨gb192, 0, none⟩) (Kd.R_types HO_4.out BK192.out (by decide)) (fun _ hk => hk.2) (.string ((rd_T61 l0_2 x50_1).f0))) (fun _ hk => hk.2) (.int .i64 ((rd_T61 l0_2 x50_1).f1))) (fun _ hk => trivial)⟩
      have n1_ : Aside0 (((w48.setCell ⟨gb192, 0, none⟩ (.string ((rd_T61 l0_2 x50_1).f0))).setCell ⟨gb192, 1, none⟩ (.int .i64 ((rd_T61 l0_2 x50_1).f1))).heap[gb169]? = some (.cells #[.int .i64 a0_0, .slice A0_1 l0_1.length c0_1, .slice (some ad191) l0_2.length c0_2, .string a0_3, .int .i64 a0_4] 26 (0, 0))) := ⟨by (with_reducible repeat (first | refine blk_drewN ?_ _ | refine blk_drew ?_ | refine blk_alloc ?_ _)); refine blk_far ?_ NB169_192.out _; (with_reducible repeat (first | refine blk_drewN ?_ _ | refine blk_drew ?_ | refine blk_alloc ?_ _)); refine blk_far ?_ NB169_192.out _; (with_reducible repeat (first | refine blk_drewN ?_ _ | refine blk_drew ?_ | refine blk_alloc ?_ _)); exact BK169.out⟩
      have n2_ : Aside0 (((w48.setCell ⟨gb192, 0, none⟩ (.string ((rd_T61 l0_2 x50_1).f0))).setCell ⟨gb192, 1, none⟩ (.int .i64 ((rd_T61 l0_2 x50_1).f1))).heap[gb192]? = some (.cells #[.string ((rd_T61 l0_2 x50_1).f0), .int .i64 ((rd_T61 l0_2 x50_1).f1)] 61 (0, 0))) := ⟨by (with_reducible repeat (first | refine blk_drewN ?_ _ | refine blk_drew ?_ | refine blk_alloc ?_ _)); refine blk_put (cs := #[.string ((rd_T61 l0_2 x50_1).f0), .int .i64 0]) ?_ 1 _ rfl; (with_reducible repeat (first | refine blk_drewN ?_ _ | refine blk_drew ?_ | refine blk_alloc ?_ _)); refine blk_put (cs := #[.string (⟨#[]⟩ : ByteArray), .int .i64 0]) ?_ 0 _ rfl; (with_reducible repeat (first | refine blk_drewN ?_ _ | refine blk_drew ?_ | refine blk_alloc ?_ _)); exact BK192.out⟩
      have n3_ : Aside0 (Below w.heap.size w ((w48.setCell ⟨gb192, 0, none⟩ (.string ((rd_T61 l0_2 x50_1).f0))).setCell ⟨gb192, 1, none⟩ (.int .i64 ((rd_T61 l0_2 x50_1).f1)))) := ⟨by repeat (first | (with_reducible first | exact HB.out | apply below_alloc | apply pw_below_drewN | apply below_drew1 | refine below_set ?_ GE169.out | refine below_set ?_ GE192.out) | exact HB.out)⟩
      (try clear HO_4)
      (try clear BK169)
      (try clear BK192)
      (try clear HB)
      generalize ((w48.setCell ⟨gb192, 0, none⟩ (.string ((rd_T61 l0_2 x50_1).f0))).setCell ⟨gb192, 1, none⟩ (.int .i64 ((rd_T61 l0_2 x50_1).f1))) = w51 at n0_ n1_ n2_ n3_ ⊢
      have HO_4 := n0_
      have BK169 := n1_
      have BK192 := n2_
      have HB := n3_
      clear n0_ n1_ n2_ n3_
      have n0_ := Aside0.mk (Kd.R_drew HO_4.out)
      have n1_ := Aside0.mk (blk_drew BK169.out)
      have n2_ := Aside0.mk (blk_drew BK192.out)
      have n3_ := Aside0.mk (below_drew1 HB.out)
      clear HO_4
      clear BK169
      clear BK192
      clear HB
      have HO_4 := n0_
      have BK169 := n1_
      have BK192 := n2_
      have HB := n3_
      clear n0_ n1_ n2_ n3_
      obtain ⟨Ao53, co53, eo53⟩ := Kd.R_slice HO_4.out
      (first | subst eo53 | (injection eo53 with f1_ f2_ f3_; have f4_ := f1_.symm; have f5_ := f3_.symm; clear f1_ f2_ f3_; subst f4_; subst f5_))
      refine start_ (n := 8) (S := fun w' => w'.cell? ⟨gb192, 0, none⟩ = some (.string ((rd_T61 l0_2 x50_1).f0)) ∧ w'.cell? ⟨gb192, 1, none⟩ = some (.int .i64 ((rd_T61 l0_2 x50_1).f1))) (ds := []) #[false, false, false, false, false, false, false, false] (by kernel_rfl) rfl rfl ⟨(blk_cell BK192.out 0).trans rfl, (blk_cell BK192.out 1).trans rfl⟩ (fun hHeld => ?_); refine with_tabW page_Encode.tab17 page_Encode.bits17 (fun HT_ HW_ => ?_)
      generalize w51.drew = w52 at HO_4 BK169 BK192 HB hHeld ⊢
      refine pure_ (i := 0) (N := some 54) (v := ?_) (a' := ?_) #[true, false, false, false, false, false, false, false] rfl rfl (any_of HT_.out (by kernel_rfl)) (fun _ _ _ h => h) (Or.inl ⟨by rfl, ?_⟩) ?_ ?_
      rotate_left
      · intro w'
        go_simp
        with_reducible rfl
      rotate_left
      · simp only [Act.put, List.setIfInBounds_toArray, List.set_cons_zero, List.set_cons_succ, i64_w, i32_w]
        rfl
      refine pure_ (i := 1) (N := some 55) (v := ?_) (a' := ?_) #[true, true, false, false, false, false, false, false] rfl rfl (any_of HT_.out (by kernel_rfl)) (fun _ _ _ h => h) (Or.inl ⟨by rfl, ?_⟩) ?_ ?_
      rotate_left
      · intro w'
        go_simp
        with_reducible rfl
      rotate_left
      · simp only [Act.put, List.setIfInBounds_toArray, List.set_cons_zero, List.set_cons_succ, i64_w, i32_w]
        rfl
      refine pure_ (i := 4) (N := some 58) (v := ?_) (a' := ?_) #[true, true, false, false, true, false, false, false] rfl rfl (any_of HT_.out (by kernel_rfl)) (fun _ _ _ h => h) (Or.inl ⟨by rfl, ?_⟩) ?_ ?_
      rotate_left
      · intro w'
        go_simp
        with_reducible rfl
      rotate_left
      · simp only [Act.put, List.setIfInBounds_toArray, List.set_cons_zero, List.set_cons_succ, i64_w, i32_w]
        rfl
      refine take_ (i := 2) (N := some 56) (v := ?_) (a' := ?_) #[true, true, true, false, true, false, false, false] rfl rfl (take_ofW HT_.out HW_.out (by kernel_rfl)) (fun _ _ _ h => h) (Or.inl ⟨by rfl, ?_⟩) hHeld ?_ ?_
      rotate_left
      · rintro w' ⟨s0, s1⟩
        go_simp
        with_reducible rfl
      rotate_left
      · simp only [Act.put, List.setIfInBounds_toArray, List.set_cons_zero, List.set_cons_succ, i64_w, i32_w]
        rfl
      refine take_ (i := 5) (N := some 59) (v := ?_) (a' := ?_) #[true, true, true, false, true, true, false, false] rfl rfl (take_ofW HT_.out HW_.out (by kernel_rfl)) (fun _ _ _ h => h) (Or.inl ⟨by rfl, ?_⟩) hHeld ?_ ?_
      rotate_left
      · rintro w' ⟨s0, s1⟩
        go_simp
        with_reducible rfl
      rotate_left
      · simp only [Act.put, List.setIfInBounds_toArray, List.set_cons_zero, List.set_cons_succ, i64_w, i32_w]
        rfl
      refine one_ (i := 3) (N := some 57) #[true, true, true, true, true, true, false, false] rfl rfl (one_of HT_.out (by kernel_rfl)) (by decide) (fun K hK => ?_)
      refine goes_ Try.func30 (by kernel_rfl) rfl #[.slice Ao53 x4_1.length co53, .string ((rd_T61 l0_2 x50_1).f0)] (by rfl) rfl rfl (by (try simp only [List.map_toArray, List.map_cons, List.map_nil]); first | done | rfl | (simp only [List.length_drop, List.length_take]; rfl)) ?_
      with_reducible refine (fix_PutText.calls k1 _ _ x4_1 ((rd_T61 l0_2 x50_1).f0) t193 _ ?side1 ?side2 A46.out).mono ?_
      (case side1 => repeat (first | exact (Kd.R_reads' HO_4.out).2.2 | (with_reducible refine Kd.C_alloc ?_ _) | (with_reducible refine Kd.C_drewN ?_ _) | (with_reducible refine Kd.C_drew ?_)))
      (case side2 => exact (Kd.R_reads' HO_4.out).2.1)
      rintro e w54 ⟨v194, rfl, ho0, hb⟩
      refine ⟨_, rfl, ?_⟩
      have n0_ := Aside0.mk (Kd.R_elder' (by (with_reducible repeat (first | apply Kd.R_alloc | apply Kd.R_drewN | apply Kd.R_drew)); exact HO_4.out) (Kd.R_base ho0) hb)
      have n1_ := Aside0.mk (Kd.R_lower (Kd.R_new' ho0 (Kd.R_lt (by (with_reducible repeat (first | apply Kd.R_alloc | apply Kd.R_drewN | apply Kd.R_drew)); exact HO_4.out))) (below_size (by repeat (first | (with_reducible first | exact HB.out | apply below_alloc | apply pw_below_drewN | apply below_drew1 | refine below_set ?_ GE169.out | refine below_set ?_ GE192.out) | exact HB.out))))
      have n2_ := Aside0.mk (blk_below (g := gb169) (o := .cells #[.int .i64 a0_0, .slice A0_1 l0_1.length c0_1, .slice (some ad191) l0_2.length c0_2, .string a0_3, .int .i64 a0_4] 26 (0, 0)) (by (with_reducible repeat (first | refine blk_drewN ?_ _ | refine blk_drew ?_ | refine blk_alloc ?_ _)); exact BK169.out) hb)
      have n3_ := Aside0.mk (blk_below (g := gb192) (o := .cells #[.string ((rd_T61 l0_2 x50_1).f0), .int .i64 ((rd_T61 l0_2 x50_1).f1)] 61 (0, 0)) (by (with_reducible repeat (first | refine blk_drewN ?_ _ | refine blk_drew ?_ | refine blk_alloc ?_ _)); exact BK192.out) hb)
      have n4_ := Aside0.mk (below_step (by repeat (first | (with_reducible first | exact HB.out | apply below_alloc | apply pw_below_drewN | apply below_drew1 | refine below_set ?_ GE169.out | refine below_set ?_ GE192.out) | exact HB.out)) hb)
      clear HO_4
      clear BK169
      clear BK192
      clear HB
      have HO_4 := n0_
      have HO195 := n1_
      have BK169 := n2_
      have BK192 := n3_
      have HB := n4_
      clear n0_ n1_ n2_ n3_ n4_
      (try clear hb)
      (try clear hb2)
      (try clear hk)
      (try clear hi)
      (try clear ho0)
      obtain ⟨Ao55, co55, eo55⟩ := Kd.R_slice HO195.out
      (first | subst eo55 | (injection eo55 with f1_ f2_ f3_; have f4_ := f1_.symm; have f5_ := f3_.symm; clear f1_ f2_ f3_; subst f4_; subst f5_))
      refine hK.out _ _ ⟨(blk_cell BK192.out 0).trans rfl, (blk_cell BK192.out 1).trans rfl⟩ (fun hHeld => ?_)
      clear hK K
      refine norm_ (a' := ?_) ?_ ?_
      rotate_left
      · show Act.put _ (some 57) _ = _
        simp only [Act.put, List.setIfInBounds_toArray, List.set_cons_zero, List.set_cons_succ, i64_w, i32_w]
        rfl
      refine one_ (i := 6) (N := some 60) #[true, true, true, true, true, true, true, false] rfl rfl (one_of HT_.out (by kernel_rfl)) (by decide) (fun K hK => ?_)
      refine goes_ Try.func29 (by kernel_rfl) rfl #[.slice Ao55 t193.length co55, .int .i64 ((rd_T61 l0_2 x50_1).f1)] (by rfl) rfl rfl (by (try simp only [List.map_toArray, List.map_cons, List.map_nil]); first | done | rfl | (simp only [List.length_drop, List.length_take]; rfl)) ?_
      with_reducible refine (fix_Put16.calls k1 _ _ t193 ((rd_T61 l0_2 x50_1).f1) t196 _ ?side1 ?side2 A47.out).mono ?_
      (case side1 => repeat (first | exact (Kd.R_reads' HO195.out).2.2 | (with_reducible refine Kd.C_alloc ?_ _) | (with_reducible refine Kd.C_drewN ?_ _) | (with_reducible refine Kd.C_drew ?_)))
      (case side2 => exact (Kd.R_reads' HO195.out).2.1)
      rintro e w56 ⟨v197, rfl, ho0, hb⟩
      refine ⟨_, rfl, ?_⟩
      have n0_ := Aside0.mk (Kd.R_elder' (by (with_reducible repeat (first | apply Kd.R_alloc | apply Kd.R_drewN | apply Kd.R_drew)); exact HO_4.out) (Kd.R_base ho0) hb)
      have n1_ := Aside0.mk (Kd.R_elder' (by (with_reducible repeat (first | apply Kd.R_alloc | apply Kd.R_drewN | apply Kd.R_drew)); exact HO195.out) (Kd.R_base ho0) hb)
      have n2_ := Aside0.mk (Kd.R_lower (Kd.R_new' (Kd.R_new' ho0 (Kd.R_lt (by (with_reducible repeat (first | apply Kd.R_alloc | apply Kd.R_drewN | apply Kd.R_drew)); exact HO_4.out))) (Kd.R_lt (by (with_reducible repeat (first | apply Kd.R_alloc | apply Kd.R_drewN | apply Kd.R_drew)); exact HO195.out))) (below_size (by repeat (first | (with_reducible first | exact HB.out | apply below_alloc | apply pw_below_drewN | apply below_drew1 | refine below_set ?_ GE169.out | refine below_set ?_ GE192.out) | exact HB.out))))
      have n3_ := Aside0.mk (blk_below (g := gb169) (o := .cells #[.int .i64 a0_0, .slice A0_1 l0_1.length c0_1, .slice (some ad191) l0_2.length c0_2, .string a0_3, .int .i64 a0_4] 26 (0, 0)) (by (with_reducible repeat (first | refine blk_drewN ?_ _ | refine blk_drew ?_ | refine blk_alloc ?_ _)); exact BK169.out) hb)
      have n4_ := Aside0.mk (blk_below (g := gb192) (o := .cells #[.string ((rd_T61 l0_2 x50_1).f0), .int .i64 ((rd_T61 l0_2 x50_1).f1)] 61 (0, 0)) (by (with_reducible repeat (first | refine blk_drewN ?_ _ | refine blk_drew ?_ | refine blk_alloc ?_ _)); exact BK192.out) hb)
      have n5_ := Aside0.mk (below_step (by repeat (first | (with_reducible first | exact HB.out | apply below_alloc | apply pw_below_drewN | apply below_drew1 | refine below_set ?_ GE169.out | refine below_set ?_ GE192.out) | exact HB.out)) hb)
      clear HO_4
      clear HO195
      clear BK169
      clear BK192
      clear HB
      have HO_4 := n0_
      have HO195 := n1_
      have HO198 := n2_
      have BK169 := n3_
      have BK192 := n4_
      have HB := n5_
      clear n0_ n1_ n2_ n3_ n4_ n5_
      (try clear hb)
      (try clear hb2)
      (try clear hk)
      (try clear hi)
      (try clear ho0)
      refine hK.out _ _ ⟨(blk_cell BK192.out 0).trans rfl, (blk_cell BK192.out 1).trans rfl⟩ (fun hHeld => ?_)
      clear hK K
      refine norm_ (a' := ?_) ?_ ?_
      rotate_left
      · show Act.put _ (some 60) _ = _
        simp only [Act.put, List.setIfInBounds_toArray, List.set_cons_zero, List.set_cons_succ, i64_w, i32_w]
        rfl
      refine pure_ (i := 7) (N := some 4) (v := ?_) (a' := ?_) #[true, true, true, true, true, true, true, true] rfl rfl (any_of HT_.out (by kernel_rfl)) (fun _ _ _ h => h) (Or.inl ⟨by rfl, ?_⟩) ?_ ?_
      rotate_left
      · intro w'
        go_simp
        with_reducible rfl
      rotate_left
      · simp only [Act.put, List.setIfInBounds_toArray, List.set_cons_zero, List.set_cons_succ, i64_w, i32_w]
        rfl
      refine done_ (done_of HT_.out (by kernel_rfl)) ?_
      try go_wp2
      go_roundg k1
      case measure => have := HK1.out; omega
      case rel => exact ⟨(t196), (wrap64 (x50_1 + 1)), (by first | rfl | (simp; done) | (simp [*]; done)), H', ⟨by have := HK1.out; omega⟩, ⟨by (with_reducible repeat (first | apply Kd.R_alloc | apply Kd.R_drewN | apply Kd.R_drew)); exact Kd.R_mono HO198.out (fun _ hk => trivial)⟩, ⟨by (with_reducible repeat (first | refine blk_drewN ?_ _ | refine blk_drew ?_ | refine blk_alloc ?_ _)); exact BK169.out⟩, ⟨by repeat (first | (with_reducible first | exact HB.out | apply below_alloc | apply pw_below_drewN | apply below_drew1 | refine below_set ?_ GE169.out | refine below_set ?_ GE192.out) | exact HB.out)⟩⟩
end Go.Proofs.Ytgbcfkcnoncgdaa.Sp
