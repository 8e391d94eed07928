import Derived.Test.YtgbcfkcnoncgdaaSp0
import Derived.Test.YtgbcfkcnoncgdaaSp7
import Derived.Test.YtgbcfkcnoncgdaaSp13
import Derived.Test.YtgbcfkcnoncgdaaSp14
import Derived.Test.YtgbcfkcnoncgdaaSp15
import Derived.Test.YtgbcfkcnoncgdaaSp16
import Derived.Test.YtgbcfkcnoncgdaaHandB
import Derived.Test.YtgbcfkcnoncgdaaHandD
namespace Go.Proofs.Ytgbcfkcnoncgdaa.Sp
open Go.Proofs.Ytgbcfkcnoncgdaa.Hand
open Go.RowKit Go.Proofs.YtgbcfkcnoncgdaaW.PrintWords Go.Proofs.YtgbcfkcnoncgdaaW.PrintLast Go.Proofs.YtgbcfkcnoncgdaaW.PrintMore
attribute [local go_sem] max2_int min2_int max_two min_two max_three min_three max_four min_four
set_option linter.unusedVariables false
set_option linter.unusedSimpArgs false
def pageDecodes0.j0 : Nat → ByteArray → Bool → Option (Bool)
  | 0, _, _ => none
  | k + 1, x0, x13 => if x13 = true then ((sapwoodlaw04_awake.f k).bind fun t397 => (some t397)) else (if x0.size ≤ 9223372036854775807 then ((page_Decode.f k (bytesOf x0)).bind fun bt401 => ((sapwoodref04_Decode.f k x0).bind fun bt412 => ((sapwoodlaw04_told.f k bt401.1 bt401.2.1 bt401.2.2.1 bt401.2.2.2.1 bt401.2.2.2.2.1).bind fun bt423 => ((sapwoodref04_Same.f k bt423.1 bt423.2.1 bt423.2.2.1 bt423.2.2.2.1 bt423.2.2.2.2 bt412.1 bt412.2.1 bt412.2.2.1 bt412.2.2.2.1 bt412.2.2.2.2.1).bind fun t432 => (if t432 = true then (some (bt401.2.2.2.2.2 == bt412.2.2.2.2.2)) else (some false)))))) else (none))
def pageDecodes0.f (k : Nat) (a0 : ByteArray) : Option (Bool) := (sapwoodlaw04_awake.f k).bind fun t396 => (if t396 = true then (pageDecodes0.j0 k a0 (decide ((a0.size : Int) > 5000))) else (pageDecodes0.j0 k a0 true))
theorem pageDecodes0.mono_l : ∀ k, (∀ y0 y1, LeO (pageDecodes0.j0 k y0 y1) (pageDecodes0.j0 (k + 1) y0 y1))
  | 0 => fun _ _ r h => by simp [pageDecodes0.j0] at h
  | k + 1 => by
    have ih0 := pageDecodes0.mono_l k
    · intro y0 y1
      unfold pageDecodes0.j0
      repeat' first
      | (with_reducible exact ih0 _ _)
      | (with_reducible exact page_Decode.mono _ _)
      | (with_reducible exact sapwoodlaw04_awake.mono _)
      | (with_reducible exact sapwoodlaw04_told.mono _ _ _ _ _ _)
      | (with_reducible exact sapwoodref04_Decode.mono _ _)
      | (with_reducible exact sapwoodref04_Same.mono _ _ _ _ _ _ _ _ _ _ _)
      | (with_reducible exact LeO.refl _)
      | (with_reducible exact LeO.none _)
      | (with_reducible refine LeO.ite ?_ ?_)
      | (with_reducible refine LeO.bind ?_ (fun _ => ?_))
      | exact ih0 _ _
      | exact page_Decode.mono _ _
      | exact sapwoodlaw04_awake.mono _
      | exact sapwoodlaw04_told.mono _ _ _ _ _ _
      | exact sapwoodref04_Decode.mono _ _
      | exact sapwoodref04_Same.mono _ _ _ _ _ _ _ _ _ _ _
      | exact LeO.none _
      | refine LeO.ite ?_ ?_
      | refine LeO.bind ?_ (fun _ => ?_)
theorem pageDecodes0.mono : ∀ a0 k, LeO (pageDecodes0.f k a0) (pageDecodes0.f (k + 1) a0) := by
  intro a0 k
  have ih0 := pageDecodes0.mono_l k
  unfold pageDecodes0.f
  repeat' first
      | (with_reducible exact ih0 _ _)
      | (with_reducible exact page_Decode.mono _ _)
      | (with_reducible exact sapwoodlaw04_awake.mono _)
      | (with_reducible exact sapwoodlaw04_told.mono _ _ _ _ _ _)
      | (with_reducible exact sapwoodref04_Decode.mono _ _)
      | (with_reducible exact sapwoodref04_Same.mono _ _ _ _ _ _ _ _ _ _ _)
      | (with_reducible exact LeO.refl _)
      | (with_reducible exact LeO.none _)
      | (with_reducible refine LeO.ite ?_ ?_)
      | (with_reducible refine LeO.bind ?_ (fun _ => ?_))
      | exact ih0 _ _
      | exact page_Decode.mono _ _
      | exact sapwoodlaw04_awake.mono _
      | exact sapwoodlaw04_told.mono _ _ _ _ _ _
      | exact sapwoodref04_Decode.mono _ _
      | exact sapwoodref04_Same.mono _ _ _ _ _ _ _ _ _ _ _
      | exact LeO.none _
      | refine LeO.ite ?_ ?_
      | refine LeO.bind ?_ (fun _ => ?_)
def pageDecodes0.T5 : Bool × List (List Nat × List Nat) := (true, [([], []), ([0], [0]), ([], []), ([1, 2, 1], [1, 2]), ([3, 3], [3]), ([4], [4]), ([4], [4]), ([5, 6, 4], [4, 5, 6]), ([4, 7], [4, 7]), ([8, 4, 0, 1, 2, 3, 4, 5, 6, 7, 8], [8])])
def pageDecodes0.B5 : List Nat := [0, 1, 0, 7, 15, 31, 31, 127, 255, 511]
theorem pageDecodes0.tab5 : rtab .any (opsOf Try.f7 5) = pageDecodes0.T5 := by kernel_rfl
theorem pageDecodes0.bits5 : waitsOk pageDecodes0.T5.2 pageDecodes0.B5 = true := by kernel_rfl
set_option maxHeartbeats 8000000 in
set_option maxRecDepth 100000 in
theorem pageDecodes0.calls (k : Nat) (a0 : ByteArray) (r : Bool) (w : World) (h : pageDecodes0.f k a0 = some r) :
    Calls Try.prog 7 #[.string a0] w fun e w' => e = .returned (.bool r) ∧ Below w.heap.size w w' := by
  have hu26 := Try.underlying26
  have hu35 := Try.underlying35
  have HB := Aside0.mk (Below.refl w.heap.size w)
  have H : ((sapwoodlaw04_awake.f k).bind fun t396 => (if t396 = true then (pageDecodes0.j0 k a0 (decide ((a0.size : Int) > 5000))) else (pageDecodes0.j0 k a0 true))) = some r := h
  clear h
  have HC2 := Aside0.mk H
  clear H
  go_enter Try.func7, Try.ntmps7
  go_upto_region 1 with (fail)
  go_cut [13] (fun v13 wc => ∃ (kq : Nat) (x13_1 : Bool), v13 = .bool x13_1 ∧ Aside0 (pageDecodes0.j0 kq a0 x13_1 = some r) ∧ Aside0 (kq ≤ k) ∧ Aside0 (Below w.heap.size w wc))
  case first =>
    have H := HC2.out
    clear HC2
    replace H := Option.bind_eq_some_iff.mp H
    obtain ⟨t396, A30, H⟩ := H
    replace H : (if t396 = true then (pageDecodes0.j0 k a0 (decide ((a0.size : Int) > 5000))) else (pageDecodes0.j0 k a0 true)) = some r := H
    have A3 := Aside0.mk A30
    clear A30
    by_cases c4 : t396 = true
    · subst c4
      have H1 : (pageDecodes0.j0 k a0 (decide ((a0.size : Int) > 5000))) = some r := by rw [if_pos rfl] at H; exact H
      clear H
      have H := H1
      clear H1
      have H' := Aside0.mk H
      clear H
      go_wp2_with (first | ((with_reducible refine gate_callee (f := 9) rfl ?_); refine goesL_ (some 7) rfl rfl Try.func9 (by kernel_rfl) rfl #[] rfl (by (try simp only [List.map_toArray, List.map_cons, List.map_nil]); first | done | rfl | (simp only [List.length_drop, List.length_take]; rfl)) ?_; (with_reducible refine (sapwoodlaw04_awake.calls k  true _ A3.out).mono ?_); rintro e w5 ⟨rfl, hb⟩; refine ⟨_, rfl, ?_⟩; have n0_ := Aside0.mk (below_step (by repeat (first | (with_reducible first | exact HB.out | apply below_alloc | apply pw_below_drewN | apply below_drew1) | exact HB.out)) hb); clear HB; have HB := n0_; clear n0_; (try clear hb); (try clear hb2); (try clear hk); (try clear hi)))
      go_meet
      case rel => exact ⟨_, (decide ((a0.size : Int) > 5000)), (by first | rfl | (simp; done) | (simp [*]; done)), H', ⟨by first | omega | exact Nat.le_refl _⟩, ⟨by repeat (first | (with_reducible first | exact HB.out | apply below_alloc | apply pw_below_drewN | apply below_drew1) | exact HB.out)⟩⟩
    replace c4 := Bool.eq_false_iff.mpr c4
    subst c4
    have H1 : (pageDecodes0.j0 k a0 true) = some r := by rw [if_neg (show ¬ (false = true) by decide)] at H; exact H
    clear H
    have H := H1
    clear H1
    have H' := Aside0.mk H
    clear H
    go_wp2_with (first | ((with_reducible refine gate_callee (f := 9) rfl ?_); refine goesL_ (some 7) rfl rfl Try.func9 (by kernel_rfl) rfl #[] rfl (by (try simp only [List.map_toArray, List.map_cons, List.map_nil]); first | done | rfl | (simp only [List.length_drop, List.length_take]; rfl)) ?_; (with_reducible refine (sapwoodlaw04_awake.calls k  false _ A3.out).mono ?_); rintro e w6 ⟨rfl, hb⟩; refine ⟨_, rfl, ?_⟩; have n0_ := Aside0.mk (below_step (by repeat (first | (with_reducible first | exact HB.out | apply below_alloc | apply pw_below_drewN | apply below_drew1) | exact HB.out)) hb); clear HB; have HB := n0_; clear n0_; (try clear hb); (try clear hb2); (try clear hk); (try clear hi)))
    go_meet
    case rel => exact ⟨_, (true), (by first | rfl | (simp; done) | (simp [*]; done)), H', ⟨by first | omega | exact Nat.le_refl _⟩, ⟨by repeat (first | (with_reducible first | exact HB.out | apply below_alloc | apply pw_below_drewN | apply below_drew1) | exact HB.out)⟩⟩
  case rest =>
    clear HC2
    try clear p2
    try clear c4
    obtain ⟨kq, x13_1, rfl, HA, HJ1, HB⟩ := hcut
    cases kq with
    | zero => exact absurd HA.out (by simp [pageDecodes0.j0])
    | succ kj1 =>
      have H := HA.out
      clear HA
      simp only [pageDecodes0.j0] at H
      by_cases c7 : x13_1 = true
      · subst c7
        have H1 : ((sapwoodlaw04_awake.f kj1).bind fun t397 => (some t397)) = some r := by rw [if_pos rfl] at H; exact H
        clear H
        have H := H1
        clear H1
        replace H := Option.bind_eq_some_iff.mp H
        obtain ⟨t397, A80, H⟩ := H
        replace H : (some t397) = some r := H
        have A8 := Aside0.mk A80
        clear A80
        obtain rfl := Option.some.inj H
        go_wp2_with (first | ((with_reducible refine gate_callee (f := 9) rfl ?_); refine goesL_ (some 14) rfl rfl Try.func9 (by kernel_rfl) rfl #[] rfl (by (try simp only [List.map_toArray, List.map_cons, List.map_nil]); first | done | rfl | (simp only [List.length_drop, List.length_take]; rfl)) ?_; (with_reducible refine (sapwoodlaw04_awake.calls kj1  t397 _ A8.out).mono ?_); rintro e w9 ⟨rfl, hb⟩; refine ⟨_, rfl, ?_⟩; have n0_ := Aside0.mk (below_step (by repeat (first | (with_reducible first | exact HB.out | apply below_alloc | apply pw_below_drewN | apply below_drew1) | exact HB.out)) hb); clear HB; have HB := n0_; clear n0_; (try clear hb); (try clear hb2); (try clear hk); (try clear hi)))
        go_ret
        exact ⟨by first | rfl | (simp [errW_none, errW_some] <;> rfl) | (simp [*, errW_none, errW_some] <;> rfl), by repeat (first | (with_reducible first | exact HB.out | apply below_alloc | apply pw_below_drewN | apply below_drew1) | exact HB.out)⟩
      replace c7 := Bool.eq_false_iff.mpr c7
      subst c7
      have H1 : (if a0.size ≤ 9223372036854775807 then ((page_Decode.f kj1 (bytesOf a0)).bind fun bt401 => ((sapwoodref04_Decode.f kj1 a0).bind fun bt412 => ((sapwoodlaw04_told.f kj1 bt401.1 bt401.2.1 bt401.2.2.1 bt401.2.2.2.1 bt401.2.2.2.2.1).bind fun bt423 => ((sapwoodref04_Same.f kj1 bt423.1 bt423.2.1 bt423.2.2.1 bt423.2.2.2.1 bt423.2.2.2.2 bt412.1 bt412.2.1 bt412.2.2.1 bt412.2.2.2.1 bt412.2.2.2.2.1).bind fun t432 => (if t432 = true then (some (bt401.2.2.2.2.2 == bt412.2.2.2.2.2)) else (some false)))))) else (none)) = some r := by rw [if_neg (show ¬ (false = true) by decide)] at H; exact H
      clear H
      have H := H1
      clear H1
      by_cases c10 : a0.size ≤ 9223372036854775807
      rotate_left
      · rw [if_neg c10] at H
        exact absurd H (by simp)
      rw [if_pos c10] at H
      have c10b0 := eq_true c10
      have c10b1 := decide_eq_true c10
      try have c10b2 : (9223372036854775807 < a0.size) = False := eq_false (Nat.not_lt.2 c10)
      clear c10
      obtain ⟨y398, hy398⟩ : ∃ y_ : List Int, y_ = (bytesOf a0) := ⟨_, rfl⟩
      replace H : ((page_Decode.f kj1 y398).bind fun bt401 => ((sapwoodref04_Decode.f kj1 a0).bind fun bt412 => ((sapwoodlaw04_told.f kj1 bt401.1 bt401.2.1 bt401.2.2.1 bt401.2.2.2.1 bt401.2.2.2.2.1).bind fun bt423 => ((sapwoodref04_Same.f kj1 bt423.1 bt423.2.1 bt423.2.2.1 bt423.2.2.2.1 bt423.2.2.2.2 bt412.1 bt412.2.1 bt412.2.2.1 bt412.2.2.2.1 bt412.2.2.2.2.1).bind fun t432 => (if t432 = true then (some (bt401.2.2.2.2.2 == bt412.2.2.2.2.2)) else (some false)))))) = some r := by first | (rw [hy398]; with_reducible exact H) | (have H2_ := (Option.bind_some _ _).symm.trans H; rw [hy398]; with_reducible exact H2_) | (have H2_ := (Option.bind_some _ _).symm.trans H; with_reducible exact H2_) | with_reducible exact H | (rw [hy398]; exact H) | exact H
      have Ny398 := Aside0.mk hy398
      clear hy398
      replace H := Option.bind_eq_some_iff.mp H
      obtain ⟨⟨t401, t402, t405, t408, t409, t410⟩, A110, H⟩ := H
      replace H : ((sapwoodref04_Decode.f kj1 a0).bind fun bt412 => ((sapwoodlaw04_told.f kj1 t401 t402 t405 t408 t409).bind fun bt423 => ((sapwoodref04_Same.f kj1 bt423.1 bt423.2.1 bt423.2.2.1 bt423.2.2.2.1 bt423.2.2.2.2 bt412.1 bt412.2.1 bt412.2.2.1 bt412.2.2.2.1 bt412.2.2.2.2.1).bind fun t432 => (if t432 = true then (some (t410 == bt412.2.2.2.2.2)) else (some false))))) = some r := H
      have A11 := Aside0.mk A110
      clear A110
      replace H := Option.bind_eq_some_iff.mp H
      obtain ⟨⟨t412, t413, t416, t419, t420, t421⟩, A120, H⟩ := H
      replace H : ((sapwoodlaw04_told.f kj1 t401 t402 t405 t408 t409).bind fun bt423 => ((sapwoodref04_Same.f kj1 bt423.1 bt423.2.1 bt423.2.2.1 bt423.2.2.2.1 bt423.2.2.2.2 t412 t413 t416 t419 t420).bind fun t432 => (if t432 = true then (some (t410 == t421)) else (some false)))) = some r := H
      have A12 := Aside0.mk A120
      clear A120
      replace H := Option.bind_eq_some_iff.mp H
      obtain ⟨⟨t423, t424, t427, t430, t431⟩, A130, H⟩ := H
      replace H : ((sapwoodref04_Same.f kj1 t423 t424 t427 t430 t431 t412 t413 t416 t419 t420).bind fun t432 => (if t432 = true then (some (t410 == t421)) else (some false))) = some r := H
      have A13 := Aside0.mk A130
      clear A130
      replace H := Option.bind_eq_some_iff.mp H
      obtain ⟨t432, A140, H⟩ := H
      replace H : (if t432 = true then (some (t410 == t421)) else (some false)) = some r := H
      have A14 := Aside0.mk A140
      clear A140
      by_cases c15 : t432 = true
      rotate_left
      · replace c15 := Bool.eq_false_iff.mpr c15
        subst c15
        have H1 : (some false) = some r := by rw [if_neg (show ¬ (false = true) by decide)] at H; exact H
        clear H
        have H := H1
        clear H1
        obtain rfl := Option.some.inj H
        try go_wp2_with (first | ((with_reducible refine gate_dst (N := 17) rfl ?_); (try (refine gate_guard (by rfl) ?_; dsimp only)); refine Hand.V_bytes _ 5 rfl (N := 17) rfl 9 30 _ rfl a0 rfl Try.underlying9 Try.underlying30 Try.underlying5 (of_decide_eq_true (by first | (with_reducible assumption) | assumption)) (fun _ hk_ => hk_) (ok := fun k_ => wc.heap.size ≤ k_) (Below.refl _ _) (Nat.le_refl _) ?_; intro v399 w36 ho37 hb hg_ hnew_; clear hg_ hnew_; (first | rw [← Ny398.out] at ho37 | (simp only [Int.reduceToNat] at ho37; rw [← Ny398.out] at ho37)); have n0_ := Aside0.mk (Kd.V_lower (Kd.V_mono (ok' := fun k_ => True) ho37 (fun k_ hk_ => trivial)) (below_size (by repeat (first | (with_reducible first | exact HB.out | apply below_alloc | apply pw_below_drewN | apply below_drew1) | exact HB.out)))); have n1_ := Aside0.mk (below_step (by repeat (first | (with_reducible first | exact HB.out | apply below_alloc | apply pw_below_drewN | apply below_drew1) | exact HB.out)) hb); clear HB; have HO400 := n0_; have HB := n1_; clear n0_ n1_; clear hb ho37; obtain ⟨Ao38, co38, eo38⟩ := Kd.V_slice HO400.out; subst eo38) | ((with_reducible refine gate_callee (f := 10) rfl ?_); refine goesL_ (some 18) rfl rfl Try.func10 (by kernel_rfl) rfl #[.slice Ao38 y398.length co38] rfl (by (try simp only [List.map_toArray, List.map_cons, List.map_nil]); first | done | rfl | (simp only [List.length_drop, List.length_take]; rfl)) ?_; (with_reducible refine (page_Decode.calls kj1 _ _ y398 t401 t402 t405 t408 t409 t410 _ ?side1 ?side2 A11.out).mono ?_); (case side1 => repeat (first | exact (Kd.V_reads' HO400.out).2.2 | (with_reducible refine Kd.C_alloc ?_ _) | (with_reducible refine Kd.C_drewN ?_ _) | (with_reducible refine Kd.C_drew ?_))); (case side2 => exact (Kd.V_reads' HO400.out).2.1); rintro e w39 ⟨v403, v406, rfl, ho0, ho1, hb⟩; refine ⟨_, rfl, ?_⟩; have n0_ := Aside0.mk (Kd.V_mono (Kd.V_told (Kd.V_told (Kd.V_old (by (with_reducible repeat (first | apply Kd.V_alloc | apply Kd.V_drewN | apply Kd.V_drew)); exact HO400.out) hb) (Kd.R_base ho0)) (Kd.R_base ho1)) (fun _ h_ => h_.1)); have n1_ := Aside0.mk (Kd.R_lower ho0 (below_size (by repeat (first | (with_reducible first | exact HB.out | apply below_alloc | apply pw_below_drewN | apply below_drew1) | exact HB.out)))); have n2_ := Aside0.mk (Kd.R_lower ho1 (below_size (by repeat (first | (with_reducible first | exact HB.out | apply below_alloc | apply pw_below_drewN | apply below_drew1) | exact HB.out)))); have n3_ := Aside0.mk (below_step (by repeat (first | (with_reducible first | exact HB.out | apply below_alloc | apply pw_below_drewN | apply below_drew1) | exact HB.out)) hb); clear HO400; clear HB; have HO400 := n0_; have HO404 := n1_; have HO407 := n2_; have HB := n3_; clear n0_ n1_ n2_ n3_; (try clear hb); (try clear hb2); (try clear hk); (try clear hi); (try clear ho0); (try clear ho1)) | ((with_reducible refine gate_dst (N := 3) rfl ?_); (try (refine gate_guard (by rfl) ?_; dsimp only)); refine box_event ?hg (N := 3) ?hd (cs := #[.int .i64 0, .slice none 0 0, .slice none 0 0, .string (⟨#[]⟩ : ByteArray), .int .i64 0]) (t := 26) ?hr ?_; (case hd => rfl); (case hg => rfl); (case hr => first | (go_simp; done) | (go_simp; rfl)); intro gb411 hg w40 hbox hb; have n0_ := Aside0.mk (Kd.V_below (Kd.V_elderB (by (with_reducible repeat (first | apply Kd.V_alloc | apply Kd.V_drewN | apply Kd.V_drew)); exact HO400.out) gb411 (Nat.le_of_eq hg.symm)) hb); have n1_ := Aside0.mk (Kd.R_below (by (with_reducible repeat (first | apply Kd.R_alloc | apply Kd.R_drewN | apply Kd.R_drew)); exact HO404.out) hb); have n2_ := Aside0.mk (Kd.R_below (by (with_reducible repeat (first | apply Kd.R_alloc | apply Kd.R_drewN | apply Kd.R_drew)); exact HO407.out) hb); have n3_ := Aside0.mk (below_step (by repeat (first | (with_reducible first | exact HB.out | apply below_alloc | apply pw_below_drewN | apply below_drew1) | exact HB.out)) hb); have n4_ := Aside0.mk (hbox); have n5_ := Aside0.mk ((by rw [hg]; exact (below_size (by repeat (first | (with_reducible first | exact HB.out | apply below_alloc | apply pw_below_drewN | apply below_drew1) | exact HB.out))) : w.heap.size ≤ gb411)); have n6_ := n5_; clear HO400; clear HO404; clear HO407; clear HB; have HO400 := n0_; have HO404 := n1_; have HO407 := n2_; have HB := n3_; have BK411 := n4_; have GW411 := n5_; have GE411 := n6_; clear n0_ n1_ n2_ n3_ n4_ n5_ n6_; clear hb hbox hg; have hcz41_0 : w40.cell? ⟨gb411, 0, none⟩ = some (.int .i64 0) := (blk_cell BK411.out 0).trans rfl; have hcz41_1 : w40.cell? ⟨gb411, 1, none⟩ = some (.slice none 0 0) := (blk_cell BK411.out 1).trans rfl; have hcz41_2 : w40.cell? ⟨gb411, 2, none⟩ = some (.slice none 0 0) := (blk_cell BK411.out 2).trans rfl; have hcz41_3 : w40.cell? ⟨gb411, 3, none⟩ = some (.string (⟨#[]⟩ : ByteArray)) := (blk_cell BK411.out 3).trans rfl; have hcz41_4 : w40.cell? ⟨gb411, 4, none⟩ = some (.int .i64 0) := (blk_cell BK411.out 4).trans rfl; have hfz41_0 := blk_frozen BK411.out 0; have hfz41_1 := blk_frozen BK411.out 1; have hfz41_2 := blk_frozen BK411.out 2; have hfz41_3 := blk_frozen BK411.out 3; have hfz41_4 := blk_frozen BK411.out 4; obtain ⟨Ao42, co42, eo42⟩ := Kd.R_slice HO404.out; subst eo42; obtain ⟨Ao43, co43, eo43⟩ := Kd.R_slice HO407.out; subst eo43) | ((with_reducible refine gate_callee (f := 19) rfl ?_); refine goesL_ (some 23) rfl rfl Try.func19 (by kernel_rfl) rfl #[.string a0] rfl (by (try simp only [List.map_toArray, List.map_cons, List.map_nil]); first | done | rfl | (simp only [List.length_drop, List.length_take]; rfl)) ?_; (with_reducible refine (sapwoodref04_Decode.calls kj1 a0 t412 t413 t416 t419 t420 t421 _ A12.out).mono ?_); rintro e w44 ⟨v414, v417, rfl, ho0, ho1, hb⟩; refine ⟨_, rfl, ?_⟩; have n0_ := Aside0.mk (Kd.V_mono (Kd.V_told (Kd.V_told (Kd.V_old (by (with_reducible repeat (first | apply Kd.V_alloc | apply Kd.V_drewN | apply Kd.V_drew)); exact (Kd.V_mono (Kd.V_far (p := ⟨gb411, 4, none⟩) (Kd.V_far (p := ⟨gb411, 3, none⟩) (Kd.V_far (p := ⟨gb411, 2, none⟩) (Kd.V_far (p := ⟨gb411, 1, none⟩) (Kd.V_far (p := ⟨gb411, 0, none⟩) (Kd.V_mono HO400.out (fun k_ hk => (⟨hk, hk.2⟩ : _ ∧ k_ ≠ gb411))) (fun _ hk => hk.2) (.int .i64 t401)) (fun _ hk => hk.2) (.slice Ao42 t402.length co42)) (fun _ hk => hk.2) (.slice Ao43 t405.length co43)) (fun _ hk => hk.2) (.string t408)) (fun _ hk => hk.2) (.int .i64 t409)) (fun _ h_ => h_.1))) hb) (Kd.R_base ho0)) (Kd.R_base ho1)) (fun _ h_ => h_.1)); have n1_ := Aside0.mk (Kd.R_below (by (with_reducible repeat (first | apply Kd.R_alloc | apply Kd.R_drewN | apply Kd.R_drew)); exact (Kd.R_mono (Kd.R_far (p := ⟨gb411, 4, none⟩) (Kd.R_far (p := ⟨gb411, 3, none⟩) (Kd.R_far (p := ⟨gb411, 2, none⟩) (Kd.R_far (p := ⟨gb411, 1, none⟩) (Kd.R_far (p := ⟨gb411, 0, none⟩) (Kd.R_types HO404.out BK411.out (by decide)) (fun _ hk => hk.2) (.int .i64 t401)) (fun _ hk => hk.2) (.slice Ao42 t402.length co42)) (fun _ hk => hk.2) (.slice Ao43 t405.length co43)) (fun _ hk => hk.2) (.string t408)) (fun _ hk => hk.2) (.int .i64 t409)) (fun _ h_ => h_.1))) hb); have n2_ := Aside0.mk (Kd.R_below (by (with_reducible repeat (first | apply Kd.R_alloc | apply Kd.R_drewN | apply Kd.R_drew)); exact (Kd.R_mono (Kd.R_far (p := ⟨gb411, 4, none⟩) (Kd.R_far (p := ⟨gb411, 3, none⟩) (Kd.R_far (p := ⟨gb411, 2, none⟩) (Kd.R_far (p := ⟨gb411, 1, none⟩) (Kd.R_far (p := ⟨gb411, 0, none⟩) (Kd.R_types HO407.out BK411.out (by decide)) (fun _ hk => hk.2) (.int .i64 t401)) (fun _ hk => hk.2) (.slice Ao42 t402.length co42)) (fun _ hk => hk.2) (.slice Ao43 t405.length co43)) (fun _ hk => hk.2) (.string t408)) (fun _ hk => hk.2) (.int .i64 t409)) (fun _ h_ => h_.1))) hb); have n3_ := Aside0.mk (Kd.R_lower ho0 (below_size (by repeat (first | (with_reducible first | exact HB.out | apply below_alloc | apply pw_below_drewN | apply below_drew1 | refine below_set ?_ GE411.out) | exact HB.out)))); have n4_ := Aside0.mk (Kd.R_lower ho1 (below_size (by repeat (first | (with_reducible first | exact HB.out | apply below_alloc | apply pw_below_drewN | apply below_drew1 | refine below_set ?_ GE411.out) | exact HB.out)))); have n5_ := Aside0.mk (blk_below (g := gb411) (o := .cells #[.int .i64 t401, .slice Ao42 t402.length co42, .slice Ao43 t405.length co43, .string t408, .int .i64 t409] 26 (0, 0)) (by (with_reducible repeat (first | refine blk_drewN ?_ _ | refine blk_drew ?_ | refine blk_alloc ?_ _)); refine blk_put (cs := #[.int .i64 t401, .slice Ao42 t402.length co42, .slice Ao43 t405.length co43, .string t408, .int .i64 0]) ?_ 4 _ rfl; (with_reducible repeat (first | refine blk_drewN ?_ _ | refine blk_drew ?_ | refine blk_alloc ?_ _)); refine blk_put (cs := #[.int .i64 t401, .slice Ao42 t402.length co42, .slice Ao43 t405.length co43, .string (⟨#[]⟩ : ByteArray), .int .i64 0]) ?_ 3 _ rfl; (with_reducible repeat (first | refine blk_drewN ?_ _ | refine blk_drew ?_ | refine blk_alloc ?_ _)); refine blk_put (cs := #[.int .i64 t401, .slice Ao42 t402.length co42, .slice none 0 0, .string (⟨#[]⟩ : ByteArray), .int .i64 0]) ?_ 2 _ rfl; (with_reducible repeat (first | refine blk_drewN ?_ _ | refine blk_drew ?_ | refine blk_alloc ?_ _)); refine blk_put (cs := #[.int .i64 t401, .slice none 0 0, .slice none 0 0, .string (⟨#[]⟩ : ByteArray), .int .i64 0]) ?_ 1 _ rfl; (with_reducible repeat (first | refine blk_drewN ?_ _ | refine blk_drew ?_ | refine blk_alloc ?_ _)); refine blk_put (cs := #[.int .i64 0, .slice none 0 0, .slice none 0 0, .string (⟨#[]⟩ : ByteArray), .int .i64 0]) ?_ 0 _ rfl; (with_reducible repeat (first | refine blk_drewN ?_ _ | refine blk_drew ?_ | refine blk_alloc ?_ _)); exact BK411.out) hb); have n6_ := Aside0.mk (below_step (by repeat (first | (with_reducible first | exact HB.out | apply below_alloc | apply pw_below_drewN | apply below_drew1 | refine below_set ?_ GE411.out) | exact HB.out)) hb); clear HO400; clear HO404; clear HO407; clear BK411; clear HB; have HO400 := n0_; have HO404 := n1_; have HO407 := n2_; have HO415 := n3_; have HO418 := n4_; have BK411 := n5_; have HB := n6_; clear n0_ n1_ n2_ n3_ n4_ n5_ n6_; (try clear hb); (try clear hb2); (try clear hk); (try clear hi); (try clear ho0); (try clear ho1)) | ((with_reducible refine gate_dst (N := 5) rfl ?_); (try (refine gate_guard (by rfl) ?_; dsimp only)); refine box_event ?hg (N := 5) ?hd (cs := #[.int .i64 0, .slice none 0 0, .slice none 0 0, .string (⟨#[]⟩ : ByteArray), .int .i64 0]) (t := 35) ?hr ?_; (case hd => rfl); (case hg => rfl); (case hr => first | (go_simp; done) | (go_simp; rfl)); intro gb422 hg w45 hbox hb; have n0_ := Aside0.mk (Kd.V_below (Kd.V_elderB (by (with_reducible repeat (first | apply Kd.V_alloc | apply Kd.V_drewN | apply Kd.V_drew)); exact HO400.out) gb422 (Nat.le_of_eq hg.symm)) hb); have n1_ := Aside0.mk (Kd.R_below (by (with_reducible repeat (first | apply Kd.R_alloc | apply Kd.R_drewN | apply Kd.R_drew)); exact HO404.out) hb); have n2_ := Aside0.mk (Kd.R_below (by (with_reducible repeat (first | apply Kd.R_alloc | apply Kd.R_drewN | apply Kd.R_drew)); exact HO407.out) hb); have n3_ := Aside0.mk (Kd.R_below (by (with_reducible repeat (first | apply Kd.R_alloc | apply Kd.R_drewN | apply Kd.R_drew)); exact HO415.out) hb); have n4_ := Aside0.mk (Kd.R_below (by (with_reducible repeat (first | apply Kd.R_alloc | apply Kd.R_drewN | apply Kd.R_drew)); exact HO418.out) hb); have n5_ := Aside0.mk (blk_below (g := gb411) (o := .cells #[.int .i64 t401, .slice Ao42 t402.length co42, .slice Ao43 t405.length co43, .string t408, .int .i64 t409] 26 (0, 0)) (by (with_reducible repeat (first | refine blk_drewN ?_ _ | refine blk_drew ?_ | refine blk_alloc ?_ _)); exact BK411.out) hb); have n6_ := Aside0.mk (below_step (by repeat (first | (with_reducible first | exact HB.out | apply below_alloc | apply pw_below_drewN | apply below_drew1 | refine below_set ?_ GE411.out) | exact HB.out)) hb); have n7_ := Aside0.mk (hbox); have n8_ := Aside0.mk ((by rw [hg]; exact (below_size (by repeat (first | (with_reducible first | exact HB.out | apply below_alloc | apply pw_below_drewN | apply below_drew1 | refine below_set ?_ GE411.out) | exact HB.out))) : w.heap.size ≤ gb422)); have n9_ := n8_; have n10_ := Aside0.mk ((by rw [hg]; exact Nat.ne_of_lt (blk_lt (g := gb411) (o := .cells #[.int .i64 t401, .slice Ao42 t402.length co42, .slice Ao43 t405.length co43, .string t408, .int .i64 t409] 26 (0, 0)) (by (with_reducible repeat (first | refine blk_drewN ?_ _ | refine blk_drew ?_ | refine blk_alloc ?_ _)); exact BK411.out)) : gb411 ≠ gb422)); have n11_ := Aside0.mk ((by rw [hg]; exact Nat.ne_of_gt (blk_lt (g := gb411) (o := .cells #[.int .i64 t401, .slice Ao42 t402.length co42, .slice Ao43 t405.length co43, .string t408, .int .i64 t409] 26 (0, 0)) (by (with_reducible repeat (first | refine blk_drewN ?_ _ | refine blk_drew ?_ | refine blk_alloc ?_ _)); exact BK411.out)) : gb422 ≠ gb411)); clear HO400; clear HO404; clear HO407; clear HO415; clear HO418; clear BK411; clear HB; have HO400 := n0_; have HO404 := n1_; have HO407 := n2_; have HO415 := n3_; have HO418 := n4_; have BK411 := n5_; have HB := n6_; have BK422 := n7_; have GW422 := n8_; have GE422 := n9_; have NB411_422 := n10_; have NB422_411 := n11_; clear n0_ n1_ n2_ n3_ n4_ n5_ n6_ n7_ n8_ n9_ n10_ n11_; clear hb hbox hg; have hnb46 := NB422_411.out; have hnc46 := NB411_422.out; have hcz47_0 : w45.cell? ⟨gb422, 0, none⟩ = some (.int .i64 0) := (blk_cell BK422.out 0).trans rfl; have hcz47_1 : w45.cell? ⟨gb422, 1, none⟩ = some (.slice none 0 0) := (blk_cell BK422.out 1).trans rfl; have hcz47_2 : w45.cell? ⟨gb422, 2, none⟩ = some (.slice none 0 0) := (blk_cell BK422.out 2).trans rfl; have hcz47_3 : w45.cell? ⟨gb422, 3, none⟩ = some (.string (⟨#[]⟩ : ByteArray)) := (blk_cell BK422.out 3).trans rfl; have hcz47_4 : w45.cell? ⟨gb422, 4, none⟩ = some (.int .i64 0) := (blk_cell BK422.out 4).trans rfl; have hfz47_0 := blk_frozen BK422.out 0; have hfz47_1 := blk_frozen BK422.out 1; have hfz47_2 := blk_frozen BK422.out 2; have hfz47_3 := blk_frozen BK422.out 3; have hfz47_4 := blk_frozen BK422.out 4; obtain ⟨Ao48, co48, eo48⟩ := Kd.R_slice HO415.out; subst eo48; obtain ⟨Ao49, co49, eo49⟩ := Kd.R_slice HO418.out; subst eo49))
        have n0_ : Aside0 (Kd.V (Kd.int .u8) 5 (((((w45.setCell ⟨gb422, 0, none⟩ (.int .i64 t412)).setCell ⟨gb422, 1, none⟩ (.slice Ao48 t413.length co48)).setCell ⟨gb422, 2, none⟩ (.slice Ao49 t416.length co49)).setCell ⟨gb422, 3, none⟩ (.string t419)).setCell ⟨gb422, 4, none⟩ (.int .i64 t420)) w.heap.size (fun k_ => some k_ ≠ (.slice Ao42 t402.length co42 : Value).ownBlock ∧ some k_ ≠ (.slice Ao43 t405.length co43 : Value).ownBlock ∧ some k_ ≠ (.slice Ao48 t413.length co48 : Value).ownBlock ∧ some k_ ≠ (.slice Ao49 t416.length co49 : Value).ownBlock ∧ k_ ≠ gb411 ∧ k_ ≠ gb422) (.slice Ao38 y398.length co38) y398) := ⟨by (with_reducible repeat (first | apply Kd.V_alloc | apply Kd.V_drewN | apply Kd.V_drew)); exact Kd.V_mono (Kd.V_far (p := ⟨gb422, 4, none⟩) (Kd.V_far (p := ⟨gb422, 3, none⟩) (Kd.V_far (p := ⟨gb422, 2, none⟩) (Kd.V_far (p := ⟨gb422, 1, none⟩) (Kd.V_far (p := ⟨gb422, 0, none⟩) (Kd.V_mono HO400.out (fun k_ hk => (⟨hk, hk.2⟩ : _ ∧ k_ ≠ gb422))) (fun _ hk => hk.2) (.int .i64 t412)) (fun _ hk => hk.2) (.slice Ao48 t413.length co48)) (fun _ hk => hk.2) (.slice Ao49 t416.length co49)) (fun _ hk => hk.2) (.string t419)) (fun _ hk => hk.2) (.int .i64 t420)) (fun _ hk => ⟨hk.1.1.1.1.1.1.2, ⟨hk.1.1.1.1.1.2, ⟨hk.1.1.1.2, ⟨hk.1.1.2, ⟨hk.1.1.1.1.2, hk.1.2⟩⟩⟩⟩⟩)⟩
        have n1_ : Aside0 (Kd.R k57 57 (((((w45.setCell ⟨gb422, 0, none⟩ (.int .i64 t412)).setCell ⟨gb422, 1, none⟩ (.slice Ao48 t413.length co48)).setCell ⟨gb422, 2, none⟩ (.slice Ao49 t416.length co49)).setCell ⟨gb422, 3, none⟩ (.string t419)).setCell ⟨gb422, 4, none⟩ (.int .i64 t420)) w.heap.size (fun _ => True) (.slice Ao42 t402.length co42) t402) := ⟨by (with_reducible repeat (first | apply Kd.R_alloc | apply Kd.R_drewN | apply Kd.R_drew)); exact Kd.R_mono (Kd.R_far (p := ⟨gb422, 4, none⟩) (Kd.R_far (p := ⟨gb422, 3, none⟩) (Kd.R_far (p := ⟨gb422, 2, none⟩) (Kd.R_far (p := ⟨gb422, 1, none⟩) (Kd.R_far (p := ⟨gb422, 0, none⟩) (Kd.R_types HO404.out BK422.out (by decide)) (fun _ hk => hk.2) (.int .i64 t412)) (fun _ hk => hk.2) (.slice Ao48 t413.length co48)) (fun _ hk => hk.2) (.slice Ao49 t416.length co49)) (fun _ hk => hk.2) (.string t419)) (fun _ hk => hk.2) (.int .i64 t420)) (fun _ hk => trivial)⟩
        have n2_ : Aside0 (Kd.R k61 61 (((((w45.setCell ⟨gb422, 0, none⟩ (.int .i64 t412)).setCell ⟨gb422, 1, none⟩ (.slice Ao48 t413.length co48)).setCell ⟨gb422, 2, none⟩ (.slice Ao49 t416.length co49)).setCell ⟨gb422, 3, none⟩ (.string t419)).setCell ⟨gb422, 4, none⟩ (.int .i64 t420)) w.heap.size (fun _ => True) (.slice Ao43 t405.length co43) t405) := ⟨by (with_reducible repeat (first | apply Kd.R_alloc | apply Kd.R_drewN | apply Kd.R_drew)); exact Kd.R_mono (Kd.R_far (p := ⟨gb422, 4, none⟩) (Kd.R_far (p := ⟨gb422, 3, none⟩) (Kd.R_far (p := ⟨gb422, 2, none⟩) (Kd.R_far (p := ⟨gb422, 1, none⟩) (Kd.R_far (p := ⟨gb422, 0, none⟩) (Kd.R_types HO407.out BK422.out (by decide)) (fun _ hk => hk.2) (.int .i64 t412)) (fun _ hk => hk.2) (.slice Ao48 t413.length co48)) (fun _ hk => hk.2) (.slice Ao49 t416.length co49)) (fun _ hk => hk.2) (.string t419)) (fun _ hk => hk.2) (.int .i64 t420)) (fun _ hk => trivial)⟩
        have n3_ : Aside0 (Kd.R k64 64 (((((w45.setCell ⟨gb422, 0, none⟩ (.int .i64 t412)).setCell ⟨gb422, 1, none⟩ (.slice Ao48 t413.length co48)).setCell ⟨gb422, 2, none⟩ (.slice Ao49 t416.length co49)).setCell ⟨gb422, 3, none⟩ (.string t419)).setCell ⟨gb422, 4, none⟩ (.int .i64 t420)) w.heap.size (fun _ => True) (.slice Ao48 t413.length co48) t413) := ⟨by (with_reducible repeat (first | apply Kd.R_alloc | apply Kd.R_drewN | apply Kd.R_drew)); exact Kd.R_mono (Kd.R_far (p := ⟨gb422, 4, none⟩) (Kd.R_far (p := ⟨gb422, 3, none⟩) (Kd.R_far (p := ⟨gb422, 2, none⟩) (Kd.R_far (p := ⟨gb422, 1, none⟩) (Kd.R_far (p := ⟨gb422, 0, none⟩) (Kd.R_types HO415.out BK422.out (by decide)) (fun _ hk => hk.2) (.int .i64 t412)) (fun _ hk => hk.2) (.slice Ao48 t413.length co48)) (fun _ hk => hk.2) (.slice Ao49 t416.length co49)) (fun _ hk => hk.2) (.string t419)) (fun _ hk => hk.2) (.int .i64 t420)) (fun _ hk => trivial)⟩
        have n4_ : Aside0 (Kd.R k65 65 (((((w45.setCell ⟨gb422, 0, none⟩ (.int .i64 t412)).setCell ⟨gb422, 1, none⟩ (.slice Ao48 t413.length co48)).setCell ⟨gb422, 2, none⟩ (.slice Ao49 t416.length co49)).setCell ⟨gb422, 3, none⟩ (.string t419)).setCell ⟨gb422, 4, none⟩ (.int .i64 t420)) w.heap.size (fun _ => True) (.slice Ao49 t416.length co49) t416) := ⟨by (with_reducible repeat (first | apply Kd.R_alloc | apply Kd.R_drewN | apply Kd.R_drew)); exact Kd.R_mono (Kd.R_far (p := ⟨gb422, 4, none⟩) (Kd.R_far (p := ⟨gb422, 3, none⟩) (Kd.R_far (p := ⟨gb422, 2, none⟩) (Kd.R_far (p := ⟨gb422, 1, none⟩) (Kd.R_far (p := ⟨gb422, 0, none⟩) (Kd.R_types HO418.out BK422.out (by decide)) (fun _ hk => hk.2) (.int .i64 t412)) (fun _ hk => hk.2) (.slice Ao48 t413.length co48)) (fun _ hk => hk.2) (.slice Ao49 t416.length co49)) (fun _ hk => hk.2) (.string t419)) (fun _ hk => hk.2) (.int .i64 t420)) (fun _ hk => trivial)⟩
        have n5_ : Aside0 ((((((w45.setCell ⟨gb422, 0, none⟩ (.int .i64 t412)).setCell ⟨gb422, 1, none⟩ (.slice Ao48 t413.length co48)).setCell ⟨gb422, 2, none⟩ (.slice Ao49 t416.length co49)).setCell ⟨gb422, 3, none⟩ (.string t419)).setCell ⟨gb422, 4, none⟩ (.int .i64 t420)).heap[gb411]? = some (.cells #[.int .i64 t401, .slice Ao42 t402.length co42, .slice Ao43 t405.length co43, .string t408, .int .i64 t409] 26 (0, 0))) := ⟨by (with_reducible repeat (first | refine blk_drewN ?_ _ | refine blk_drew ?_ | refine blk_alloc ?_ _)); refine blk_far ?_ NB411_422.out _; (with_reducible repeat (first | refine blk_drewN ?_ _ | refine blk_drew ?_ | refine blk_alloc ?_ _)); refine blk_far ?_ NB411_422.out _; (with_reducible repeat (first | refine blk_drewN ?_ _ | refine blk_drew ?_ | refine blk_alloc ?_ _)); refine blk_far ?_ NB411_422.out _; (with_reducible repeat (first | refine blk_drewN ?_ _ | refine blk_drew ?_ | refine blk_alloc ?_ _)); refine blk_far ?_ NB411_422.out _; (with_reducible repeat (first | refine blk_drewN ?_ _ | refine blk_drew ?_ | refine blk_alloc ?_ _)); refine blk_far ?_ NB411_422.out _; (with_reducible repeat (first | refine blk_drewN ?_ _ | refine blk_drew ?_ | refine blk_alloc ?_ _)); exact BK411.out⟩
        have n6_ : Aside0 ((((((w45.setCell ⟨gb422, 0, none⟩ (.int .i64 t412)).setCell ⟨gb422, 1, none⟩ (.slice Ao48 t413.length co48)).setCell ⟨gb422, 2, none⟩ (.slice Ao49 t416.length co49)).setCell ⟨gb422, 3, none⟩ (.string t419)).setCell ⟨gb422, 4, none⟩ (.int .i64 t420)).heap[gb422]? = some (.cells #[.int .i64 t412, .slice Ao48 t413.length co48, .slice Ao49 t416.length co49, .string t419, .int .i64 t420] 35 (0, 0))) := ⟨by (with_reducible repeat (first | refine blk_drewN ?_ _ | refine blk_drew ?_ | refine blk_alloc ?_ _)); refine blk_put (cs := #[.int .i64 t412, .slice Ao48 t413.length co48, .slice Ao49 t416.length co49, .string t419, .int .i64 0]) ?_ 4 _ rfl; (with_reducible repeat (first | refine blk_drewN ?_ _ | refine blk_drew ?_ | refine blk_alloc ?_ _)); refine blk_put (cs := #[.int .i64 t412, .slice Ao48 t413.length co48, .slice Ao49 t416.length co49, .string (⟨#[]⟩ : ByteArray), .int .i64 0]) ?_ 3 _ rfl; (with_reducible repeat (first | refine blk_drewN ?_ _ | refine blk_drew ?_ | refine blk_alloc ?_ _)); refine blk_put (cs := #[.int .i64 t412, .slice Ao48 t413.length co48, .slice none 0 0, .string (⟨#[]⟩ : ByteArray), .int .i64 0]) ?_ 2 _ rfl; (with_reducible repeat (first | refine blk_drewN ?_ _ | refine blk_drew ?_ | refine blk_alloc ?_ _)); refine blk_put (cs := #[.int .i64 t412, .slice none 0 0, .slice none 0 0, .string (⟨#[]⟩ : ByteArray), .int .i64 0]) ?_ 1 _ rfl; (with_reducible repeat (first | refine blk_drewN ?_ _ | refine blk_drew ?_ | refine blk_alloc ?_ _)); refine blk_put (cs := #[.int .i64 0, .slice none 0 0, .slice none 0 0, .string (⟨#[]⟩ : ByteArray), .int .i64 0]) ?_ 0 _ rfl; (with_reducible repeat (first | refine blk_drewN ?_ _ | refine blk_drew ?_ | refine blk_alloc ?_ _)); exact BK422.out⟩
        have n7_ : Aside0 (Below w.heap.size w (((((w45.setCell ⟨gb422, 0, none⟩ (.int .i64 t412)).setCell ⟨gb422, 1, none⟩ (.slice Ao48 t413.length co48)).setCell ⟨gb422, 2, none⟩ (.slice Ao49 t416.length co49)).setCell ⟨gb422, 3, none⟩ (.string t419)).setCell ⟨gb422, 4, none⟩ (.int .i64 t420))) := ⟨by repeat (first | (with_reducible first | exact HB.out | apply below_alloc | apply pw_below_drewN | apply below_drew1 | refine below_set ?_ GE411.out | refine below_set ?_ GE422.out) | exact HB.out)⟩
        (try clear HO400)
        (try clear HO404)
        (try clear HO407)
        (try clear HO415)
        (try clear HO418)
        (try clear BK411)
        (try clear BK422)
        (try clear HB)
        generalize (((((w45.setCell ⟨gb422, 0, none⟩ (.int .i64 t412)).setCell ⟨gb422, 1, none⟩ (.slice Ao48 t413.length co48)).setCell ⟨gb422, 2, none⟩ (.slice Ao49 t416.length co49)).setCell ⟨gb422, 3, none⟩ (.string t419)).setCell ⟨gb422, 4, none⟩ (.int .i64 t420)) = w50 at n0_ n1_ n2_ n3_ n4_ n5_ n6_ n7_ ⊢
        have HO400 := n0_
        have HO404 := n1_
        have HO407 := n2_
        have HO415 := n3_
        have HO418 := n4_
        have BK411 := n5_
        have BK422 := n6_
        have HB := n7_
        clear n0_ n1_ n2_ n3_ n4_ n5_ n6_ n7_
        have n0_ := Aside0.mk (Kd.V_drew HO400.out)
        have n1_ := Aside0.mk (Kd.R_drew HO404.out)
        have n2_ := Aside0.mk (Kd.R_drew HO407.out)
        have n3_ := Aside0.mk (Kd.R_drew HO415.out)
        have n4_ := Aside0.mk (Kd.R_drew HO418.out)
        have n5_ := Aside0.mk (blk_drew BK411.out)
        have n6_ := Aside0.mk (blk_drew BK422.out)
        have n7_ := Aside0.mk (below_drew1 HB.out)
        clear HO400
        clear HO404
        clear HO407
        clear HO415
        clear HO418
        clear BK411
        clear BK422
        clear HB
        have HO400 := n0_
        have HO404 := n1_
        have HO407 := n2_
        have HO415 := n3_
        have HO418 := n4_
        have BK411 := n5_
        have BK422 := n6_
        have HB := n7_
        clear n0_ n1_ n2_ n3_ n4_ n5_ n6_ n7_
        refine start_ (n := 10) (S := fun w' => w'.cell? ⟨gb411, 0, none⟩ = some (.int .i64 t401) ∧ w'.cell? ⟨gb411, 1, none⟩ = some (.slice Ao42 t402.length co42) ∧ w'.cell? ⟨gb411, 2, none⟩ = some (.slice Ao43 t405.length co43) ∧ w'.cell? ⟨gb411, 3, none⟩ = some (.string t408) ∧ w'.cell? ⟨gb411, 4, none⟩ = some (.int .i64 t409) ∧ w'.cell? ⟨gb422, 0, none⟩ = some (.int .i64 t412) ∧ w'.cell? ⟨gb422, 1, none⟩ = some (.slice Ao48 t413.length co48) ∧ w'.cell? ⟨gb422, 2, none⟩ = some (.slice Ao49 t416.length co49) ∧ w'.cell? ⟨gb422, 3, none⟩ = some (.string t419) ∧ w'.cell? ⟨gb422, 4, none⟩ = some (.int .i64 t420)) (ds := []) #[false, false, false, false, false, false, false, false, false, false] (by kernel_rfl) rfl rfl ⟨(blk_cell BK411.out 0).trans rfl, (blk_cell BK411.out 1).trans rfl, (blk_cell BK411.out 2).trans rfl, (blk_cell BK411.out 3).trans rfl, (blk_cell BK411.out 4).trans rfl, (blk_cell BK422.out 0).trans rfl, (blk_cell BK422.out 1).trans rfl, (blk_cell BK422.out 2).trans rfl, (blk_cell BK422.out 3).trans rfl, (blk_cell BK422.out 4).trans rfl⟩ (fun hHeld => ?_); refine with_tabW pageDecodes0.tab5 pageDecodes0.bits5 (fun HT_ HW_ => ?_)
        generalize w50.drew = w51 at HO400 HO404 HO407 HO415 HO418 BK411 BK422 HB hHeld ⊢
        refine take_ (i := 0) (N := some 26) (v := ?_) (a' := ?_) #[true, false, false, false, false, false, false, false, false, false] rfl rfl (take_ofW HT_.out HW_.out (by kernel_rfl)) (fun _ _ _ h => h) (Or.inl ⟨by rfl, ?_⟩) hHeld ?_ ?_
        rotate_left
        · rintro w' ⟨s0, s1, s2, s3, s4, s5, s6, s7, s8, s9⟩
          go_simp
          with_reducible rfl
        rotate_left
        · simp only [Act.put, List.setIfInBounds_toArray, List.set_cons_zero, List.set_cons_succ, i64_w, i32_w]
          rfl
        refine take_ (i := 2) (N := some 28) (v := ?_) (a' := ?_) #[true, false, true, false, false, false, false, false, false, false] rfl rfl (take_ofW HT_.out HW_.out (by kernel_rfl)) (fun _ _ _ h => h) (Or.inl ⟨by rfl, ?_⟩) hHeld ?_ ?_
        rotate_left
        · rintro w' ⟨s0, s1, s2, s3, s4, s5, s6, s7, s8, s9⟩
          go_simp
          with_reducible rfl
        rotate_left
        · simp only [Act.put, List.setIfInBounds_toArray, List.set_cons_zero, List.set_cons_succ, i64_w, i32_w]
          rfl
        refine one_ (i := 1) (N := some 27) #[true, true, true, false, false, false, false, false, false, false] rfl rfl (one_of HT_.out (by kernel_rfl)) (by decide) (fun K hK => ?_)
        refine goes_ Try.func12 (by kernel_rfl) rfl #[.agg #[.int .i64 t401, .slice Ao42 t402.length co42, .slice Ao43 t405.length co43, .string t408, .int .i64 t409]] (by rfl) rfl rfl (by (try simp only [List.map_toArray, List.map_cons, List.map_nil]); first | done | rfl | (simp only [List.length_drop, List.length_take]; rfl)) ?_
        with_reducible refine (sapwoodlaw04_told.calls kj1 t401 _ _ t402 _ _ t405 t408 t409 t423 t424 t427 t430 t431 _ ?side1 ?side2 ?side3 ?side4 A13.out).mono ?_
        (case side1 => repeat (first | exact (Kd.R_reads' HO404.out).2.2 | (with_reducible refine Kd.C_alloc ?_ _) | (with_reducible refine Kd.C_drewN ?_ _) | (with_reducible refine Kd.C_drew ?_)))
        (case side2 => exact (Kd.R_reads' HO404.out).2.1)
        (case side3 => repeat (first | exact (Kd.R_reads' HO407.out).2.2 | (with_reducible refine Kd.C_alloc ?_ _) | (with_reducible refine Kd.C_drewN ?_ _) | (with_reducible refine Kd.C_drew ?_)))
        (case side4 => exact (Kd.R_reads' HO407.out).2.1)
        rintro e w52 ⟨v425, v428, rfl, ho0, ho1, hb⟩
        refine ⟨_, rfl, ?_⟩
        have n0_ := Aside0.mk (Kd.V_mono (Kd.V_told (Kd.V_told (Kd.V_old (by (with_reducible repeat (first | apply Kd.V_alloc | apply Kd.V_drewN | apply Kd.V_drew)); exact HO400.out) hb) (Kd.R_base ho0)) (Kd.R_base ho1)) (fun _ h_ => h_.1))
        have n1_ := Aside0.mk (Kd.R_below (by (with_reducible repeat (first | apply Kd.R_alloc | apply Kd.R_drewN | apply Kd.R_drew)); exact HO404.out) hb)
        have n2_ := Aside0.mk (Kd.R_below (by (with_reducible repeat (first | apply Kd.R_alloc | apply Kd.R_drewN | apply Kd.R_drew)); exact HO407.out) hb)
        have n3_ := Aside0.mk (Kd.R_elder' (by (with_reducible repeat (first | apply Kd.R_alloc | apply Kd.R_drewN | apply Kd.R_drew)); exact HO415.out) (Kd.R_base ho0) hb)
        have n4_ := Aside0.mk (Kd.R_elder' (by (with_reducible repeat (first | apply Kd.R_alloc | apply Kd.R_drewN | apply Kd.R_drew)); exact HO418.out) (Kd.R_base ho1) hb)
        have n5_ := Aside0.mk (Kd.R_lower (Kd.R_new' ho0 (Kd.R_lt (by (with_reducible repeat (first | apply Kd.R_alloc | apply Kd.R_drewN | apply Kd.R_drew)); exact HO415.out))) (below_size (by repeat (first | (with_reducible first | exact HB.out | apply below_alloc | apply pw_below_drewN | apply below_drew1 | refine below_set ?_ GE411.out | refine below_set ?_ GE422.out) | exact HB.out))))
        have n6_ := Aside0.mk (Kd.R_lower (Kd.R_new' ho1 (Kd.R_lt (by (with_reducible repeat (first | apply Kd.R_alloc | apply Kd.R_drewN | apply Kd.R_drew)); exact HO418.out))) (below_size (by repeat (first | (with_reducible first | exact HB.out | apply below_alloc | apply pw_below_drewN | apply below_drew1 | refine below_set ?_ GE411.out | refine below_set ?_ GE422.out) | exact HB.out))))
        have n7_ := Aside0.mk (blk_below (g := gb411) (o := .cells #[.int .i64 t401, .slice Ao42 t402.length co42, .slice Ao43 t405.length co43, .string t408, .int .i64 t409] 26 (0, 0)) (by (with_reducible repeat (first | refine blk_drewN ?_ _ | refine blk_drew ?_ | refine blk_alloc ?_ _)); exact BK411.out) hb)
        have n8_ := Aside0.mk (blk_below (g := gb422) (o := .cells #[.int .i64 t412, .slice Ao48 t413.length co48, .slice Ao49 t416.length co49, .string t419, .int .i64 t420] 35 (0, 0)) (by (with_reducible repeat (first | refine blk_drewN ?_ _ | refine blk_drew ?_ | refine blk_alloc ?_ _)); exact BK422.out) hb)
        have n9_ := Aside0.mk (below_step (by repeat (first | (with_reducible first | exact HB.out | apply below_alloc | apply pw_below_drewN | apply below_drew1 | refine below_set ?_ GE411.out | refine below_set ?_ GE422.out) | exact HB.out)) hb)
        clear HO400
        clear HO404
        clear HO407
        clear HO415
        clear HO418
        clear BK411
        clear BK422
        clear HB
        have HO400 := n0_
        have HO404 := n1_
        have HO407 := n2_
        have HO415 := n3_
        have HO418 := n4_
        have HO426 := n5_
        have HO429 := n6_
        have BK411 := n7_
        have BK422 := n8_
        have HB := n9_
        clear n0_ n1_ n2_ n3_ n4_ n5_ n6_ n7_ n8_ n9_
        (try clear hb)
        (try clear hb2)
        (try clear hk)
        (try clear hi)
        (try clear ho0)
        (try clear ho1)
        obtain ⟨Ao53, co53, eo53⟩ := Kd.R_slice HO426.out
        (first | subst eo53 | (injection eo53 with f1_ f2_ f3_; have f4_ := f1_.symm; have f5_ := f3_.symm; clear f1_ f2_ f3_; subst f4_; subst f5_))
        obtain ⟨Ao54, co54, eo54⟩ := Kd.R_slice HO429.out
        (first | subst eo54 | (injection eo54 with f1_ f2_ f3_; have f4_ := f1_.symm; have f5_ := f3_.symm; clear f1_ f2_ f3_; subst f4_; subst f5_))
        refine hK.out _ _ ⟨(blk_cell BK411.out 0).trans rfl, (blk_cell BK411.out 1).trans rfl, (blk_cell BK411.out 2).trans rfl, (blk_cell BK411.out 3).trans rfl, (blk_cell BK411.out 4).trans rfl, (blk_cell BK422.out 0).trans rfl, (blk_cell BK422.out 1).trans rfl, (blk_cell BK422.out 2).trans rfl, (blk_cell BK422.out 3).trans rfl, (blk_cell BK422.out 4).trans rfl⟩ (fun hHeld => ?_)
        clear hK K
        refine norm_ (a' := ?_) ?_ ?_
        rotate_left
        · show Act.put _ (some 27) _ = _
          simp only [Act.put, List.setIfInBounds_toArray, List.set_cons_zero, List.set_cons_succ, i64_w, i32_w]
          rfl
        refine one_ (i := 3) (N := some 29) #[true, true, true, true, false, false, false, false, false, false] rfl rfl (one_of HT_.out (by kernel_rfl)) (by decide) (fun K hK => ?_)
        refine goes_ Try.func11 (by kernel_rfl) rfl #[.agg #[.int .i64 t423, .slice Ao53 t424.length co53, .slice Ao54 t427.length co54, .string t430, .int .i64 t431], .agg #[.int .i64 t412, .slice Ao48 t413.length co48, .slice Ao49 t416.length co49, .string t419, .int .i64 t420]] (by rfl) rfl rfl (by (try simp only [List.map_toArray, List.map_cons, List.map_nil]); first | done | rfl | (simp only [List.length_drop, List.length_take]; rfl)) ?_
        with_reducible refine (sapwoodref04_Same.calls kj1 t423 _ _ t424 _ _ t427 t430 t431 t412 _ _ t413 _ _ t416 t419 t420 false _ ?side1 ?side2 ?side3 ?side4 ?side5 ?side6 ?side7 ?side8 A14.out).mono ?_
        (case side1 => repeat (first | exact (Kd.R_reads' HO426.out).2.2 | (with_reducible refine Kd.C_alloc ?_ _) | (with_reducible refine Kd.C_drewN ?_ _) | (with_reducible refine Kd.C_drew ?_)))
        (case side2 => exact (Kd.R_reads' HO426.out).2.1)
        (case side3 => repeat (first | exact (Kd.R_reads' HO429.out).2.2 | (with_reducible refine Kd.C_alloc ?_ _) | (with_reducible refine Kd.C_drewN ?_ _) | (with_reducible refine Kd.C_drew ?_)))
        (case side4 => exact (Kd.R_reads' HO429.out).2.1)
        (case side5 => repeat (first | exact (Kd.R_reads' HO415.out).2.2 | (with_reducible refine Kd.C_alloc ?_ _) | (with_reducible refine Kd.C_drewN ?_ _) | (with_reducible refine Kd.C_drew ?_)))
        (case side6 => exact (Kd.R_reads' HO415.out).2.1)
        (case side7 => repeat (first | exact (Kd.R_reads' HO418.out).2.2 | (with_reducible refine Kd.C_alloc ?_ _) | (with_reducible refine Kd.C_drewN ?_ _) | (with_reducible refine Kd.C_drew ?_)))
        (case side8 => exact (Kd.R_reads' HO418.out).2.1)
        rintro e w55 ⟨rfl, hb⟩
        refine ⟨_, rfl, ?_⟩
        have n0_ := Aside0.mk (Kd.V_below (by (with_reducible repeat (first | apply Kd.V_alloc | apply Kd.V_drewN | apply Kd.V_drew)); exact HO400.out) hb)
        have n1_ := Aside0.mk (Kd.R_below (by (with_reducible repeat (first | apply Kd.R_alloc | apply Kd.R_drewN | apply Kd.R_drew)); exact HO404.out) hb)
        have n2_ := Aside0.mk (Kd.R_below (by (with_reducible repeat (first | apply Kd.R_alloc | apply Kd.R_drewN | apply Kd.R_drew)); exact HO407.out) hb)
        have n3_ := Aside0.mk (Kd.R_below (by (with_reducible repeat (first | apply Kd.R_alloc | apply Kd.R_drewN | apply Kd.R_drew)); exact HO415.out) hb)
        have n4_ := Aside0.mk (Kd.R_below (by (with_reducible repeat (first | apply Kd.R_alloc | apply Kd.R_drewN | apply Kd.R_drew)); exact HO418.out) hb)
        have n5_ := Aside0.mk (Kd.R_below (by (with_reducible repeat (first | apply Kd.R_alloc | apply Kd.R_drewN | apply Kd.R_drew)); exact HO426.out) hb)
        have n6_ := Aside0.mk (Kd.R_below (by (with_reducible repeat (first | apply Kd.R_alloc | apply Kd.R_drewN | apply Kd.R_drew)); exact HO429.out) hb)
        have n7_ := Aside0.mk (blk_below (g := gb411) (o := .cells #[.int .i64 t401, .slice Ao42 t402.length co42, .slice Ao43 t405.length co43, .string t408, .int .i64 t409] 26 (0, 0)) (by (with_reducible repeat (first | refine blk_drewN ?_ _ | refine blk_drew ?_ | refine blk_alloc ?_ _)); exact BK411.out) hb)
        have n8_ := Aside0.mk (blk_below (g := gb422) (o := .cells #[.int .i64 t412, .slice Ao48 t413.length co48, .slice Ao49 t416.length co49, .string t419, .int .i64 t420] 35 (0, 0)) (by (with_reducible repeat (first | refine blk_drewN ?_ _ | refine blk_drew ?_ | refine blk_alloc ?_ _)); exact BK422.out) hb)
        have n9_ := Aside0.mk (below_step (by repeat (first | (with_reducible first | exact HB.out | apply below_alloc | apply pw_below_drewN | apply below_drew1 | refine below_set ?_ GE411.out | refine below_set ?_ GE422.out) | exact HB.out)) hb)
        clear HO400
        clear HO404
        clear HO407
        clear HO415
        clear HO418
        clear HO426
        clear HO429
        clear BK411
        clear BK422
        clear HB
        have HO400 := n0_
        have HO404 := n1_
        have HO407 := n2_
        have HO415 := n3_
        have HO418 := n4_
        have HO426 := n5_
        have HO429 := n6_
        have BK411 := n7_
        have BK422 := n8_
        have HB := n9_
        clear n0_ n1_ n2_ n3_ n4_ n5_ n6_ n7_ n8_ n9_
        (try clear hb)
        (try clear hb2)
        (try clear hk)
        (try clear hi)
        refine hK.out _ _ ⟨(blk_cell BK411.out 0).trans rfl, (blk_cell BK411.out 1).trans rfl, (blk_cell BK411.out 2).trans rfl, (blk_cell BK411.out 3).trans rfl, (blk_cell BK411.out 4).trans rfl, (blk_cell BK422.out 0).trans rfl, (blk_cell BK422.out 1).trans rfl, (blk_cell BK422.out 2).trans rfl, (blk_cell BK422.out 3).trans rfl, (blk_cell BK422.out 4).trans rfl⟩ (fun hHeld => ?_)
        clear hK K
        refine norm_ (a' := ?_) ?_ ?_
        rotate_left
        · show Act.put _ (some 29) _ = _
          simp only [Act.put, List.setIfInBounds_toArray, List.set_cons_zero, List.set_cons_succ, i64_w, i32_w]
          rfl
        refine pure_ (i := 4) (N := some 30) (v := ?_) (a' := ?_) #[true, true, true, true, true, false, false, false, false, false] rfl rfl (any_of HT_.out (by kernel_rfl)) (fun _ _ _ h => h) (Or.inl ⟨by rfl, ?_⟩) ?_ ?_
        rotate_left
        · intro w'
          go_simp
          with_reducible rfl
        rotate_left
        · simp only [Act.put, List.setIfInBounds_toArray, List.set_cons_zero, List.set_cons_succ, i64_w, i32_w]
          rfl
        refine pure_ (i := 5) (N := some 31) (v := undef) (a' := ?_) #[true, true, true, true, true, true, false, false, false, false] rfl rfl (any_of HT_.out (by kernel_rfl)) (fun _ _ _ h => h) (Or.inr ⟨by rfl, rfl⟩) ?_ ?_
        rotate_left
        · simp only [Act.put, List.setIfInBounds_toArray, List.set_cons_zero, List.set_cons_succ, i64_w, i32_w]
          rfl
        refine pure_ (i := 6) (N := some 32) (v := undef) (a' := ?_) #[true, true, true, true, true, true, true, false, false, false] rfl rfl (any_of HT_.out (by kernel_rfl)) (fun _ _ _ h => h) (Or.inr ⟨by rfl, rfl⟩) ?_ ?_
        rotate_left
        · simp only [Act.put, List.setIfInBounds_toArray, List.set_cons_zero, List.set_cons_succ, i64_w, i32_w]
          rfl
        refine pure_ (i := 7) (N := some 33) (v := undef) (a' := ?_) #[true, true, true, true, true, true, true, true, false, false] rfl rfl (any_of HT_.out (by kernel_rfl)) (fun _ _ _ h => h) (Or.inr ⟨by rfl, rfl⟩) ?_ ?_
        rotate_left
        · simp only [Act.put, List.setIfInBounds_toArray, List.set_cons_zero, List.set_cons_succ, i64_w, i32_w]
          rfl
        refine pure_ (i := 8) (N := some 34) (v := ?_) (a' := ?_) #[true, true, true, true, true, true, true, true, true, false] rfl rfl (any_of HT_.out (by kernel_rfl)) (fun _ _ _ h => h) (Or.inl ⟨by rfl, ?_⟩) ?_ ?_
        rotate_left
        · intro w'
          go_simp
          with_reducible rfl
        rotate_left
        · simp only [Act.put, List.setIfInBounds_toArray, List.set_cons_zero, List.set_cons_succ, i64_w, i32_w]
          rfl
        refine pure_ (i := 9) (N := some 2) (v := ?_) (a' := ?_) #[true, true, true, true, true, true, true, true, true, true] rfl rfl (any_of HT_.out (by kernel_rfl)) (fun _ _ _ h => h) (Or.inl ⟨by rfl, ?_⟩) ?_ ?_
        rotate_left
        · intro w'
          go_simp
          with_reducible rfl
        rotate_left
        · simp only [Act.put, List.setIfInBounds_toArray, List.set_cons_zero, List.set_cons_succ, i64_w, i32_w]
          rfl
        refine done_ (done_of HT_.out (by kernel_rfl)) ?_
        try go_wp2
        go_ret
        exact ⟨by first | rfl | (simp [errW_none, errW_some] <;> rfl) | (simp [*, errW_none, errW_some] <;> rfl), by repeat (first | (with_reducible first | exact HB.out | apply below_alloc | apply pw_below_drewN | apply below_drew1 | refine below_set ?_ GE411.out | refine below_set ?_ GE422.out) | exact HB.out)⟩
      subst c15
      have H1 : (some (t410 == t421)) = some r := by rw [if_pos rfl] at H; exact H
      clear H
      have H := H1
      clear H1
      obtain rfl := Option.some.inj H
      try go_wp2_with (first | ((with_reducible refine gate_dst (N := 17) rfl ?_); (try (refine gate_guard (by rfl) ?_; dsimp only)); refine Hand.V_bytes _ 5 rfl (N := 17) rfl 9 30 _ rfl a0 rfl Try.underlying9 Try.underlying30 Try.underlying5 (of_decide_eq_true (by first | (with_reducible assumption) | assumption)) (fun _ hk_ => hk_) (ok := fun k_ => wc.heap.size ≤ k_) (Below.refl _ _) (Nat.le_refl _) ?_; intro v399 w16 ho17 hb hg_ hnew_; clear hg_ hnew_; (first | rw [← Ny398.out] at ho17 | (simp only [Int.reduceToNat] at ho17; rw [← Ny398.out] at ho17)); have n0_ := Aside0.mk (Kd.V_lower (Kd.V_mono (ok' := fun k_ => True) ho17 (fun k_ hk_ => trivial)) (below_size (by repeat (first | (with_reducible first | exact HB.out | apply below_alloc | apply pw_below_drewN | apply below_drew1) | exact HB.out)))); have n1_ := Aside0.mk (below_step (by repeat (first | (with_reducible first | exact HB.out | apply below_alloc | apply pw_below_drewN | apply below_drew1) | exact HB.out)) hb); clear HB; have HO400 := n0_; have HB := n1_; clear n0_ n1_; clear hb ho17; obtain ⟨Ao18, co18, eo18⟩ := Kd.V_slice HO400.out; subst eo18) | ((with_reducible refine gate_callee (f := 10) rfl ?_); refine goesL_ (some 18) rfl rfl Try.func10 (by kernel_rfl) rfl #[.slice Ao18 y398.length co18] rfl (by (try simp only [List.map_toArray, List.map_cons, List.map_nil]); first | done | rfl | (simp only [List.length_drop, List.length_take]; rfl)) ?_; (with_reducible refine (page_Decode.calls kj1 _ _ y398 t401 t402 t405 t408 t409 t410 _ ?side1 ?side2 A11.out).mono ?_); (case side1 => repeat (first | exact (Kd.V_reads' HO400.out).2.2 | (with_reducible refine Kd.C_alloc ?_ _) | (with_reducible refine Kd.C_drewN ?_ _) | (with_reducible refine Kd.C_drew ?_))); (case side2 => exact (Kd.V_reads' HO400.out).2.1); rintro e w19 ⟨v403, v406, rfl, ho0, ho1, hb⟩; refine ⟨_, rfl, ?_⟩; have n0_ := Aside0.mk (Kd.V_mono (Kd.V_told (Kd.V_told (Kd.V_old (by (with_reducible repeat (first | apply Kd.V_alloc | apply Kd.V_drewN | apply Kd.V_drew)); exact HO400.out) hb) (Kd.R_base ho0)) (Kd.R_base ho1)) (fun _ h_ => h_.1)); have n1_ := Aside0.mk (Kd.R_lower ho0 (below_size (by repeat (first | (with_reducible first | exact HB.out | apply below_alloc | apply pw_below_drewN | apply below_drew1) | exact HB.out)))); have n2_ := Aside0.mk (Kd.R_lower ho1 (below_size (by repeat (first | (with_reducible first | exact HB.out | apply below_alloc | apply pw_below_drewN | apply below_drew1) | exact HB.out)))); have n3_ := Aside0.mk (below_step (by repeat (first | (with_reducible first | exact HB.out | apply below_alloc | apply pw_below_drewN | apply below_drew1) | exact HB.out)) hb); clear HO400; clear HB; have HO400 := n0_; have HO404 := n1_; have HO407 := n2_; have HB := n3_; clear n0_ n1_ n2_ n3_; (try clear hb); (try clear hb2); (try clear hk); (try clear hi); (try clear ho0); (try clear ho1)) | ((with_reducible refine gate_dst (N := 3) rfl ?_); (try (refine gate_guard (by rfl) ?_; dsimp only)); refine box_event ?hg (N := 3) ?hd (cs := #[.int .i64 0, .slice none 0 0, .slice none 0 0, .string (⟨#[]⟩ : ByteArray), .int .i64 0]) (t := 26) ?hr ?_; (case hd => rfl); (case hg => rfl); (case hr => first | (go_simp; done) | (go_simp; rfl)); intro gb411 hg w20 hbox hb; have n0_ := Aside0.mk (Kd.V_below (Kd.V_elderB (by (with_reducible repeat (first | apply Kd.V_alloc | apply Kd.V_drewN | apply Kd.V_drew)); exact HO400.out) gb411 (Nat.le_of_eq hg.symm)) hb); have n1_ := Aside0.mk (Kd.R_below (by (with_reducible repeat (first | apply Kd.R_alloc | apply Kd.R_drewN | apply Kd.R_drew)); exact HO404.out) hb); have n2_ := Aside0.mk (Kd.R_below (by (with_reducible repeat (first | apply Kd.R_alloc | apply Kd.R_drewN | apply Kd.R_drew)); exact HO407.out) hb); have n3_ := Aside0.mk (below_step (by repeat (first | (with_reducible first | exact HB.out | apply below_alloc | apply pw_below_drewN | apply below_drew1) | exact HB.out)) hb); have n4_ := Aside0.mk (hbox); have n5_ := Aside0.mk ((by rw [hg]; exact (below_size (by repeat (first | (with_reducible first | exact HB.out | apply below_alloc | apply pw_below_drewN | apply below_drew1) | exact HB.out))) : w.heap.size ≤ gb411)); have n6_ := n5_; clear HO400; clear HO404; clear HO407; clear HB; have HO400 := n0_; have HO404 := n1_; have HO407 := n2_; have HB := n3_; have BK411 := n4_; have GW411 := n5_; have GE411 := n6_; clear n0_ n1_ n2_ n3_ n4_ n5_ n6_; clear hb hbox hg; have hcz21_0 : w20.cell? ⟨gb411, 0, none⟩ = some (.int .i64 0) := (blk_cell BK411.out 0).trans rfl; have hcz21_1 : w20.cell? ⟨gb411, 1, none⟩ = some (.slice none 0 0) := (blk_cell BK411.out 1).trans rfl; have hcz21_2 : w20.cell? ⟨gb411, 2, none⟩ = some (.slice none 0 0) := (blk_cell BK411.out 2).trans rfl; have hcz21_3 : w20.cell? ⟨gb411, 3, none⟩ = some (.string (⟨#[]⟩ : ByteArray)) := (blk_cell BK411.out 3).trans rfl; have hcz21_4 : w20.cell? ⟨gb411, 4, none⟩ = some (.int .i64 0) := (blk_cell BK411.out 4).trans rfl; have hfz21_0 := blk_frozen BK411.out 0; have hfz21_1 := blk_frozen BK411.out 1; have hfz21_2 := blk_frozen BK411.out 2; have hfz21_3 := blk_frozen BK411.out 3; have hfz21_4 := blk_frozen BK411.out 4; obtain ⟨Ao22, co22, eo22⟩ := Kd.R_slice HO404.out; subst eo22; obtain ⟨Ao23, co23, eo23⟩ := Kd.R_slice HO407.out; subst eo23) | ((with_reducible refine gate_callee (f := 19) rfl ?_); refine goesL_ (some 23) rfl rfl Try.func19 (by kernel_rfl) rfl #[.string a0] rfl (by (try simp only [List.map_toArray, List.map_cons, List.map_nil]); first | done | rfl | (simp only [List.length_drop, List.length_take]; rfl)) ?_; (with_reducible refine (sapwoodref04_Decode.calls kj1 a0 t412 t413 t416 t419 t420 t421 _ A12.out).mono ?_); rintro e w24 ⟨v414, v417, rfl, ho0, ho1, hb⟩; refine ⟨_, rfl, ?_⟩; have n0_ := Aside0.mk (Kd.V_mono (Kd.V_told (Kd.V_told (Kd.V_old (by (with_reducible repeat (first | apply Kd.V_alloc | apply Kd.V_drewN | apply Kd.V_drew)); exact (Kd.V_mono (Kd.V_far (p := ⟨gb411, 4, none⟩) (Kd.V_far (p := ⟨gb411, 3, none⟩) (Kd.V_far (p := ⟨gb411, 2, none⟩) (Kd.V_far (p := ⟨gb411, 1, none⟩) (Kd.V_far (p := ⟨gb411, 0, none⟩) (Kd.V_mono HO400.out (fun k_ hk => (⟨hk, hk.2⟩ : _ ∧ k_ ≠ gb411))) (fun _ hk => hk.2) (.int .i64 t401)) (fun _ hk => hk.2) (.slice Ao22 t402.length co22)) (fun _ hk => hk.2) (.slice Ao23 t405.length co23)) (fun _ hk => hk.2) (.string t408)) (fun _ hk => hk.2) (.int .i64 t409)) (fun _ h_ => h_.1))) hb) (Kd.R_base ho0)) (Kd.R_base ho1)) (fun _ h_ => h_.1)); have n1_ := Aside0.mk (Kd.R_below (by (with_reducible repeat (first | apply Kd.R_alloc | apply Kd.R_drewN | apply Kd.R_drew)); exact (Kd.R_mono (Kd.R_far (p := ⟨gb411, 4, none⟩) (Kd.R_far (p := ⟨gb411, 3, none⟩) (Kd.R_far (p := ⟨gb411, 2, none⟩) (Kd.R_far (p := ⟨gb411, 1, none⟩) (Kd.R_far (p := ⟨gb411, 0, none⟩) (Kd.R_types HO404.out BK411.out (by decide)) (fun _ hk => hk.2) (.int .i64 t401)) (fun _ hk => hk.2) (.slice Ao22 t402.length co22)) (fun _ hk => hk.2) (.slice Ao23 t405.length co23)) (fun _ hk => hk.2) (.string t408)) (fun _ hk => hk.2) (.int .i64 t409)) (fun _ h_ => h_.1))) hb); have n2_ := Aside0.mk (Kd.R_below (by (with_reducible repeat (first | apply Kd.R_alloc | apply Kd.R_drewN | apply Kd.R_drew)); exact (Kd.R_mono (Kd.R_far (p := ⟨gb411, 4, none⟩) (Kd.R_far (p := ⟨gb411, 3, none⟩) (Kd.R_far (p := ⟨gb411, 2, none⟩) (Kd.R_far (p := ⟨gb411, 1, none⟩) (Kd.R_far (p := ⟨gb411, 0, none⟩) (Kd.R_types HO407.out BK411.out (by decide)) (fun _ hk => hk.2) (.int .i64 t401)) (fun _ hk => hk.2) (.slice Ao22 t402.length co22)) (fun _ hk => hk.2) (.slice Ao23 t405.length co23)) (fun _ hk => hk.2) (.string t408)) (fun _ hk => hk.2) (.int .i64 t409)) (fun _ h_ => h_.1))) hb); have n3_ := Aside0.mk (Kd.R_lower ho0 (below_size (by repeat (first | (with_reducible first | exact HB.out | apply below_alloc | apply pw_below_drewN | apply below_drew1 | refine below_set ?_ GE411.out) | exact HB.out)))); have n4_ := Aside0.mk (Kd.R_lower ho1 (below_size (by repeat (first | (with_reducible first | exact HB.out | apply below_alloc | apply pw_below_drewN | apply below_drew1 | refine below_set ?_ GE411.out) | exact HB.out)))); have n5_ := Aside0.mk (blk_below (g := gb411) (o := .cells #[.int .i64 t401, .slice Ao22 t402.length co22, .slice Ao23 t405.length co23, .string t408, .int .i64 t409] 26 (0, 0)) (by (with_reducible repeat (first | refine blk_drewN ?_ _ | refine blk_drew ?_ | refine blk_alloc ?_ _)); refine blk_put (cs := #[.int .i64 t401, .slice Ao22 t402.length co22, .slice Ao23 t405.length co23, .string t408, .int .i64 0]) ?_ 4 _ rfl; (with_reducible repeat (first | refine blk_drewN ?_ _ | refine blk_drew ?_ | refine blk_alloc ?_ _)); refine blk_put (cs := #[.int .i64 t401, .slice Ao22 t402.length co22, .slice Ao23 t405.length co23, .string (⟨#[]⟩ : ByteArray), .int .i64 0]) ?_ 3 _ rfl; (with_reducible repeat (first | refine blk_drewN ?_ _ | refine blk_drew ?_ | refine blk_alloc ?_ _)); refine blk_put (cs := #[.int .i64 t401, .slice Ao22 t402.length co22, .slice none 0 0, .string (⟨#[]⟩ : ByteArray), .int .i64 0]) ?_ 2 _ rfl; (with_reducible repeat (first | refine blk_drewN ?_ _ | refine blk_drew ?_ | refine blk_alloc ?_ _)); refine blk_put (cs := #[.int .i64 t401, .slice none 0 0, .slice none 0 0, .string (⟨#[]⟩ : ByteArray), .int .i64 0]) ?_ 1 _ rfl; (with_reducible repeat (first | refine blk_drewN ?_ _ | refine blk_drew ?_ | refine blk_alloc ?_ _)); refine blk_put (cs := #[.int .i64 0, .slice none 0 0, .slice none 0 0, .string (⟨#[]⟩ : ByteArray), .int .i64 0]) ?_ 0 _ rfl; (with_reducible repeat (first | refine blk_drewN ?_ _ | refine blk_drew ?_ | refine blk_alloc ?_ _)); exact BK411.out) hb); have n6_ := Aside0.mk (below_step (by repeat (first | (with_reducible first | exact HB.out | apply below_alloc | apply pw_below_drewN | apply below_drew1 | refine below_set ?_ GE411.out) | exact HB.out)) hb); clear HO400; clear HO404; clear HO407; clear BK411; clear HB; have HO400 := n0_; have HO404 := n1_; have HO407 := n2_; have HO415 := n3_; have HO418 := n4_; have BK411 := n5_; have HB := n6_; clear n0_ n1_ n2_ n3_ n4_ n5_ n6_; (try clear hb); (try clear hb2); (try clear hk); (try clear hi); (try clear ho0); (try clear ho1)) | ((with_reducible refine gate_dst (N := 5) rfl ?_); (try (refine gate_guard (by rfl) ?_; dsimp only)); refine box_event ?hg (N := 5) ?hd (cs := #[.int .i64 0, .slice none 0 0, .slice none 0 0, .string (⟨#[]⟩ : ByteArray), .int .i64 0]) (t := 35) ?hr ?_; (case hd => rfl); (case hg => rfl); (case hr => first | (go_simp; done) | (go_simp; rfl)); intro gb422 hg w25 hbox hb; have n0_ := Aside0.mk (Kd.V_below (Kd.V_elderB (by (with_reducible repeat (first | apply Kd.V_alloc | apply Kd.V_drewN | apply Kd.V_drew)); exact HO400.out) gb422 (Nat.le_of_eq hg.symm)) hb); have n1_ := Aside0.mk (Kd.R_below (by (with_reducible repeat (first | apply Kd.R_alloc | apply Kd.R_drewN | apply Kd.R_drew)); exact HO404.out) hb); have n2_ := Aside0.mk (Kd.R_below (by (with_reducible repeat (first | apply Kd.R_alloc | apply Kd.R_drewN | apply Kd.R_drew)); exact HO407.out) hb); have n3_ := Aside0.mk (Kd.R_below (by (with_reducible repeat (first | apply Kd.R_alloc | apply Kd.R_drewN | apply Kd.R_drew)); exact HO415.out) hb); have n4_ := Aside0.mk (Kd.R_below (by (with_reducible repeat (first | apply Kd.R_alloc | apply Kd.R_drewN | apply Kd.R_drew)); exact HO418.out) hb); have n5_ := Aside0.mk (blk_below (g := gb411) (o := .cells #[.int .i64 t401, .slice Ao22 t402.length co22, .slice Ao23 t405.length co23, .string t408, .int .i64 t409] 26 (0, 0)) (by (with_reducible repeat (first | refine blk_drewN ?_ _ | refine blk_drew ?_ | refine blk_alloc ?_ _)); exact BK411.out) hb); have n6_ := Aside0.mk (below_step (by repeat (first | (with_reducible first | exact HB.out | apply below_alloc | apply pw_below_drewN | apply below_drew1 | refine below_set ?_ GE411.out) | exact HB.out)) hb); have n7_ := Aside0.mk (hbox); have n8_ := Aside0.mk ((by rw [hg]; exact (below_size (by repeat (first | (with_reducible first | exact HB.out | apply below_alloc | apply pw_below_drewN | apply below_drew1 | refine below_set ?_ GE411.out) | exact HB.out))) : w.heap.size ≤ gb422)); have n9_ := n8_; have n10_ := Aside0.mk ((by rw [hg]; exact Nat.ne_of_lt (blk_lt (g := gb411) (o := .cells #[.int .i64 t401, .slice Ao22 t402.length co22, .slice Ao23 t405.length co23, .string t408, .int .i64 t409] 26 (0, 0)) (by (with_reducible repeat (first | refine blk_drewN ?_ _ | refine blk_drew ?_ | refine blk_alloc ?_ _)); exact BK411.out)) : gb411 ≠ gb422)); have n11_ := Aside0.mk ((by rw [hg]; exact Nat.ne_of_gt (blk_lt (g := gb411) (o := .cells #[.int .i64 t401, .slice Ao22 t402.length co22, .slice Ao23 t405.length co23, .string t408, .int .i64 t409] 26 (0, 0)) (by (with_reducible repeat (first | refine blk_drewN ?_ _ | refine blk_drew ?_ | refine blk_alloc ?_ _)); exact BK411.out)) : gb422 ≠ gb411)); clear HO400; clear HO404; clear HO407; clear HO415; clear HO418; clear BK411; clear HB; have HO400 := n0_; have HO404 := n1_; have HO407 := n2_; have HO415 := n3_; have HO418 := n4_; have BK411 := n5_; have HB := n6_; have BK422 := n7_; have GW422 := n8_; have GE422 := n9_; have NB411_422 := n10_; have NB422_411 := n11_; clear n0_ n1_ n2_ n3_ n4_ n5_ n6_ n7_ n8_ n9_ n10_ n11_; clear hb hbox hg; have hnb26 := NB422_411.out; have hnc26 := NB411_422.out; have hcz27_0 : w25.cell? ⟨gb422, 0, none⟩ = some (.int .i64 0) := (blk_cell BK422.out 0).trans rfl; have hcz27_1 : w25.cell? ⟨gb422, 1, none⟩ = some (.slice none 0 0) := (blk_cell BK422.out 1).trans rfl; have hcz27_2 : w25.cell? ⟨gb422, 2, none⟩ = some (.slice none 0 0) := (blk_cell BK422.out 2).trans rfl; have hcz27_3 : w25.cell? ⟨gb422, 3, none⟩ = some (.string (⟨#[]⟩ : ByteArray)) := (blk_cell BK422.out 3).trans rfl; have hcz27_4 : w25.cell? ⟨gb422, 4, none⟩ = some (.int .i64 0) := (blk_cell BK422.out 4).trans rfl; have hfz27_0 := blk_frozen BK422.out 0; have hfz27_1 := blk_frozen BK422.out 1; have hfz27_2 := blk_frozen BK422.out 2; have hfz27_3 := blk_frozen BK422.out 3; have hfz27_4 := blk_frozen BK422.out 4; obtain ⟨Ao28, co28, eo28⟩ := Kd.R_slice HO415.out; subst eo28; obtain ⟨Ao29, co29, eo29⟩ := Kd.R_slice HO418.out; subst eo29))
      have n0_ : Aside0 (Kd.V (Kd.int .u8) 5 (((((w25.setCell ⟨gb422, 0, none⟩ (.int .i64 t412)).setCell ⟨gb422, 1, none⟩ (.slice Ao28 t413.length co28)).setCell ⟨gb422, 2, none⟩ (.slice Ao29 t416.length co29)).setCell ⟨gb422, 3, none⟩ (.string t419)).setCell ⟨gb422, 4, none⟩ (.int .i64 t420)) w.heap.size (fun k_ => some k_ ≠ (.slice Ao22 t402.length co22 : Value).ownBlock ∧ some k_ ≠ (.slice Ao23 t405.length co23 : Value).ownBlock ∧ some k_ ≠ (.slice Ao28 t413.length co28 : Value).ownBlock ∧ some k_ ≠ (.slice Ao29 t416.length co29 : Value).ownBlock ∧ k_ ≠ gb411 ∧ k_ ≠ gb422) (.slice Ao18 y398.length co18) y398) := ⟨by (with_reducible repeat (first | apply Kd.V_alloc | apply Kd.V_drewN | apply Kd.V_drew)); exact Kd.V_mono (Kd.V_far (p := ⟨gb422, 4, none⟩) (Kd.V_far (p := ⟨gb422, 3, none⟩) (Kd.V_far (p := ⟨gb422, 2, none⟩) (Kd.V_far (p := ⟨gb422, 1, none⟩) (Kd.V_far (p := ⟨gb422, 0, none⟩) (Kd.V_mono HO400.out (fun k_ hk => (⟨hk, hk.2⟩ : _ ∧ k_ ≠ gb422))) (fun _ hk => hk.2) (.int .i64 t412)) (fun _ hk => hk.2) (.slice Ao28 t413.length co28)) (fun _ hk => hk.2) (.slice Ao29 t416.length co29)) (fun _ hk => hk.2) (.string t419)) (fun _ hk => hk.2) (.int .i64 t420)) (fun _ hk => ⟨hk.1.1.1.1.1.1.2, ⟨hk.1.1.1.1.1.2, ⟨hk.1.1.1.2, ⟨hk.1.1.2, ⟨hk.1.1.1.1.2, hk.1.2⟩⟩⟩⟩⟩)⟩
      have n1_ : Aside0 (Kd.R k57 57 (((((w25.setCell ⟨gb422, 0, none⟩ (.int .i64 t412)).setCell ⟨gb422, 1, none⟩ (.slice Ao28 t413.length co28)).setCell ⟨gb422, 2, none⟩ (.slice Ao29 t416.length co29)).setCell ⟨gb422, 3, none⟩ (.string t419)).setCell ⟨gb422, 4, none⟩ (.int .i64 t420)) w.heap.size (fun _ => True) (.slice Ao22 t402.length co22) t402) := ⟨by (with_reducible repeat (first | apply Kd.R_alloc | apply Kd.R_drewN | apply Kd.R_drew)); exact Kd.R_mono (Kd.R_far (p := ⟨gb422, 4, none⟩) (Kd.R_far (p := ⟨gb422, 3, none⟩) (Kd.R_far (p := ⟨gb422, 2, none⟩) (Kd.R_far (p := ⟨gb422, 1, none⟩) (Kd.R_far (p := ⟨gb422, 0, none⟩) (Kd.R_types HO404.out BK422.out (by decide)) (fun _ hk => hk.2) (.int .i64 t412)) (fun _ hk => hk.2) (.slice Ao28 t413.length co28)) (fun _ hk => hk.2) (.slice Ao29 t416.length co29)) (fun _ hk => hk.2) (.string t419)) (fun _ hk => hk.2) (.int .i64 t420)) (fun _ hk => trivial)⟩
      have n2_ : Aside0 (Kd.R k61 61 (((((w25.setCell ⟨gb422, 0, none⟩ (.int .i64 t412)).setCell ⟨gb422, 1, none⟩ (.slice Ao28 t413.length co28)).setCell ⟨gb422, 2, none⟩ (.slice Ao29 t416.length co29)).setCell ⟨gb422, 3, none⟩ (.string t419)).setCell ⟨gb422, 4, none⟩ (.int .i64 t420)) w.heap.size (fun _ => True) (.slice Ao23 t405.length co23) t405) := ⟨by (with_reducible repeat (first | apply Kd.R_alloc | apply Kd.R_drewN | apply Kd.R_drew)); exact Kd.R_mono (Kd.R_far (p := ⟨gb422, 4, none⟩) (Kd.R_far (p := ⟨gb422, 3, none⟩) (Kd.R_far (p := ⟨gb422, 2, none⟩) (Kd.R_far (p := ⟨gb422, 1, none⟩) (Kd.R_far (p := ⟨gb422, 0, none⟩) (Kd.R_types HO407.out BK422.out (by decide)) (fun _ hk => hk.2) (.int .i64 t412)) (fun _ hk => hk.2) (.slice Ao28 t413.length co28)) (fun _ hk => hk.2) (.slice Ao29 t416.length co29)) (fun _ hk => hk.2) (.string t419)) (fun _ hk => hk.2) (.int .i64 t420)) (fun _ hk => trivial)⟩
      have n3_ : Aside0 (Kd.R k64 64 (((((w25.setCell ⟨gb422, 0, none⟩ (.int .i64 t412)).setCell ⟨gb422, 1, none⟩ (.slice Ao28 t413.length co28)).setCell ⟨gb422, 2, none⟩ (.slice Ao29 t416.length co29)).setCell ⟨gb422, 3, none⟩ (.string t419)).setCell ⟨gb422, 4, none⟩ (.int .i64 t420)) w.heap.size (fun _ => True) (.slice Ao28 t413.length co28) t413) := ⟨by (with_reducible repeat (first | apply Kd.R_alloc | apply Kd.R_drewN | apply Kd.R_drew)); exact Kd.R_mono (Kd.R_far (p := ⟨gb422, 4, none⟩) (Kd.R_far (p := ⟨gb422, 3, none⟩) (Kd.R_far (p := ⟨gb422, 2, none⟩) (Kd.R_far (p := ⟨gb422, 1, none⟩) (Kd.R_far (p := ⟨gb422, 0, none⟩) (Kd.R_types HO415.out BK422.out (by decide)) (fun _ hk => hk.2) (.int .i64 t412)) (fun _ hk => hk.2) (.slice Ao28 t413.length co28)) (fun _ hk => hk.2) (.slice Ao29 t416.length co29)) (fun _ hk => hk.2) (.string t419)) (fun _ hk => hk.2) (.int .i64 t420)) (fun _ hk => trivial)⟩
      have n4_ : Aside0 (Kd.R k65 65 (((((w25.setCell ⟨gb422, 0, none⟩ (.int .i64 t412)).setCell ⟨gb422, 1, none⟩ (.slice Ao28 t413.length co28)).setCell ⟨gb422, 2, none⟩ (.slice Ao29 t416.length co29)).setCell ⟨gb422, 3, none⟩ (.string t419)).setCell ⟨gb422, 4, none⟩ (.int .i64 t420)) w.heap.size (fun _ => True) (.slice Ao29 t416.length co29) t416) := ⟨by (with_reducible repeat (first | apply Kd.R_alloc | apply Kd.R_drewN | apply Kd.R_drew)); exact Kd.R_mono (Kd.R_far (p := ⟨gb422, 4, none⟩) (Kd.R_far (p := ⟨gb422, 3, none⟩) (Kd.R_far (p := ⟨gb422, 2, none⟩) (Kd.R_far (p := ⟨gb422, 1, none⟩) (Kd.R_far (p := ⟨gb422, 0, none⟩) (Kd.R_types HO418.out BK422.out (by decide)) (fun _ hk => hk.2) (.int .i64 t412)) (fun _ hk => hk.2) (.slice Ao28 t413.length co28)) (fun _ hk => hk.2) (.slice Ao29 t416.length co29)) (fun _ hk => hk.2) (.string t419)) (fun _ hk => hk.2) (.int .i64 t420)) (fun _ hk => trivial)⟩
      have n5_ : Aside0 ((((((w25.setCell ⟨gb422, 0, none⟩ (.int .i64 t412)).setCell ⟨gb422, 1, none⟩ (.slice Ao28 t413.length co28)).setCell ⟨gb422, 2, none⟩ (.slice Ao29 t416.length co29)).setCell ⟨gb422, 3, none⟩ (.string t419)).setCell ⟨gb422, 4, none⟩ (.int .i64 t420)).heap[gb411]? = some (.cells #[.int .i64 t401, .slice Ao22 t402.length co22, .slice Ao23 t405.length co23, .string t408, .int .i64 t409] 26 (0, 0))) := ⟨by (with_reducible repeat (first | refine blk_drewN ?_ _ | refine blk_drew ?_ | refine blk_alloc ?_ _)); refine blk_far ?_ NB411_422.out _; (with_reducible repeat (first | refine blk_drewN ?_ _ | refine blk_drew ?_ | refine blk_alloc ?_ _)); refine blk_far ?_ NB411_422.out _; (with_reducible repeat (first | refine blk_drewN ?_ _ | refine blk_drew ?_ | refine blk_alloc ?_ _)); refine blk_far ?_ NB411_422.out _; (with_reducible repeat (first | refine blk_drewN ?_ _ | refine blk_drew ?_ | refine blk_alloc ?_ _)); refine blk_far ?_ NB411_422.out _; (with_reducible repeat (first | refine blk_drewN ?_ _ | refine blk_drew ?_ | refine blk_alloc ?_ _)); refine blk_far ?_ NB411_422.out _; (with_reducible repeat (first | refine blk_drewN ?_ _ | refine blk_drew ?_ | refine blk_alloc ?_ _)); exact BK411.out⟩
      have n6_ : Aside0 ((((((w25.setCell ⟨gb422, 0, none⟩ (.int .i64 t412)).setCell ⟨gb422, 1, none⟩ (.slice Ao28 t413.length co28)).setCell ⟨gb422, 2, none⟩ (.slice Ao29 t416.length co29)).setCell ⟨gb422, 3, none⟩ (.string t419)).setCell ⟨gb422, 4, none⟩ (.int .i64 t420)).heap[gb422]? = some (.cells #[.int .i64 t412, .slice Ao28 t413.length co28, .slice Ao29 t416.length co29, .string t419, .int .i64 t420] 35 (0, 0))) := ⟨by (with_reducible repeat (first | refine blk_drewN ?_ _ | refine blk_drew ?_ | refine blk_alloc ?_ _)); refine blk_put (cs := #[.int .i64 t412, .slice Ao28 t413.length co28, .slice Ao29 t416.length co29, .string t419, .int .i64 0]) ?_ 4 _ rfl; (with_reducible repeat (first | refine blk_drewN ?_ _ | refine blk_drew ?_ | refine blk_alloc ?_ _)); refine blk_put (cs := #[.int .i64 t412, .slice Ao28 t413.length co28, .slice Ao29 t416.length co29, .string (⟨#[]⟩ : ByteArray), .int .i64 0]) ?_ 3 _ rfl; (with_reducible repeat (first | refine blk_drewN ?_ _ | refine blk_drew ?_ | refine blk_alloc ?_ _)); refine blk_put (cs := #[.int .i64 t412, .slice Ao28 t413.length co28, .slice none 0 0, .string (⟨#[]⟩ : ByteArray), .int .i64 0]) ?_ 2 _ rfl; (with_reducible repeat (first | refine blk_drewN ?_ _ | refine blk_drew ?_ | refine blk_alloc ?_ _)); refine blk_put (cs := #[.int .i64 t412, .slice none 0 0, .slice none 0 0, .string (⟨#[]⟩ : ByteArray), .int .i64 0]) ?_ 1 _ rfl; (with_reducible repeat (first | refine blk_drewN ?_ _ | refine blk_drew ?_ | refine blk_alloc ?_ _)); refine blk_put (cs := #[.int .i64 0, .slice none 0 0, .slice none 0 0, .string (⟨#[]⟩ : ByteArray), .int .i64 0]) ?_ 0 _ rfl; (with_reducible repeat (first | refine blk_drewN ?_ _ | refine blk_drew ?_ | refine blk_alloc ?_ _)); exact BK422.out⟩
      have n7_ : Aside0 (Below w.heap.size w (((((w25.setCell ⟨gb422, 0, none⟩ (.int .i64 t412)).setCell ⟨gb422, 1, none⟩ (.slice Ao28 t413.length co28)).setCell ⟨gb422, 2, none⟩ (.slice Ao29 t416.length co29)).setCell ⟨gb422, 3, none⟩ (.string t419)).setCell ⟨gb422, 4, none⟩ (.int .i64 t420))) := ⟨by repeat (first | (with_reducible first | exact HB.out | apply below_alloc | apply pw_below_drewN | apply below_drew1 | refine below_set ?_ GE411.out | refine below_set ?_ GE422.out) | exact HB.out)⟩
      (try clear HO400)
      (try clear HO404)
      (try clear HO407)
      (try clear HO415)
      (try clear HO418)
      (try clear BK411)
      (try clear BK422)
      (try clear HB)
      generalize (((((w25.setCell ⟨gb422, 0, none⟩ (.int .i64 t412)).setCell ⟨gb422, 1, none⟩ (.slice Ao28 t413.length co28)).setCell ⟨gb422, 2, none⟩ (.slice Ao29 t416.length co29)).setCell ⟨gb422, 3, none⟩ (.string t419)).setCell ⟨gb422, 4, none⟩ (.int .i64 t420)) = w30 at n0_ n1_ n2_ n3_ n4_ n5_ n6_ n7_ ⊢
      have HO400 := n0_
      have HO404 := n1_
      have HO407 := n2_
      have HO415 := n3_
      have HO418 := n4_
      have BK411 := n5_
      have BK422 := n6_
      have HB := n7_
      clear n0_ n1_ n2_ n3_ n4_ n5_ n6_ n7_
      have n0_ := Aside0.mk (Kd.V_drew HO400.out)
      have n1_ := Aside0.mk (Kd.R_drew HO404.out)
      have n2_ := Aside0.mk (Kd.R_drew HO407.out)
      have n3_ := Aside0.mk (Kd.R_drew HO415.out)
      have n4_ := Aside0.mk (Kd.R_drew HO418.out)
      have n5_ := Aside0.mk (blk_drew BK411.out)
      have n6_ := Aside0.mk (blk_drew BK422.out)
      have n7_ := Aside0.mk (below_drew1 HB.out)
      clear HO400
      clear HO404
      clear HO407
      clear HO415
      clear HO418
      clear BK411
      clear BK422
      clear HB
      have HO400 := n0_
      have HO404 := n1_
      have HO407 := n2_
      have HO415 := n3_
      have HO418 := n4_
      have BK411 := n5_
      have BK422 := n6_
      have HB := n7_
      clear n0_ n1_ n2_ n3_ n4_ n5_ n6_ n7_
      refine start_ (n := 10) (S := fun w' => w'.cell? ⟨gb411, 0, none⟩ = some (.int .i64 t401) ∧ w'.cell? ⟨gb411, 1, none⟩ = some (.slice Ao22 t402.length co22) ∧ w'.cell? ⟨gb411, 2, none⟩ = some (.slice Ao23 t405.length co23) ∧ w'.cell? ⟨gb411, 3, none⟩ = some (.string t408) ∧ w'.cell? ⟨gb411, 4, none⟩ = some (.int .i64 t409) ∧ w'.cell? ⟨gb422, 0, none⟩ = some (.int .i64 t412) ∧ w'.cell? ⟨gb422, 1, none⟩ = some (.slice Ao28 t413.length co28) ∧ w'.cell? ⟨gb422, 2, none⟩ = some (.slice Ao29 t416.length co29) ∧ w'.cell? ⟨gb422, 3, none⟩ = some (.string t419) ∧ w'.cell? ⟨gb422, 4, none⟩ = some (.int .i64 t420)) (ds := []) #[false, false, false, false, false, false, false, false, false, false] (by kernel_rfl) rfl rfl ⟨(blk_cell BK411.out 0).trans rfl, (blk_cell BK411.out 1).trans rfl, (blk_cell BK411.out 2).trans rfl, (blk_cell BK411.out 3).trans rfl, (blk_cell BK411.out 4).trans rfl, (blk_cell BK422.out 0).trans rfl, (blk_cell BK422.out 1).trans rfl, (blk_cell BK422.out 2).trans rfl, (blk_cell BK422.out 3).trans rfl, (blk_cell BK422.out 4).trans rfl⟩ (fun hHeld => ?_); refine with_tabW pageDecodes0.tab5 pageDecodes0.bits5 (fun HT_ HW_ => ?_)
      generalize w30.drew = w31 at HO400 HO404 HO407 HO415 HO418 BK411 BK422 HB hHeld ⊢
      refine take_ (i := 0) (N := some 26) (v := ?_) (a' := ?_) #[true, false, false, false, false, false, false, false, false, false] rfl rfl (take_ofW HT_.out HW_.out (by kernel_rfl)) (fun _ _ _ h => h) (Or.inl ⟨by rfl, ?_⟩) hHeld ?_ ?_
      rotate_left
      · rintro w' ⟨s0, s1, s2, s3, s4, s5, s6, s7, s8, s9⟩
        go_simp
        with_reducible rfl
      rotate_left
      · simp only [Act.put, List.setIfInBounds_toArray, List.set_cons_zero, List.set_cons_succ, i64_w, i32_w]
        rfl
      refine take_ (i := 2) (N := some 28) (v := ?_) (a' := ?_) #[true, false, true, false, false, false, false, false, false, false] rfl rfl (take_ofW HT_.out HW_.out (by kernel_rfl)) (fun _ _ _ h => h) (Or.inl ⟨by rfl, ?_⟩) hHeld ?_ ?_
      rotate_left
      · rintro w' ⟨s0, s1, s2, s3, s4, s5, s6, s7, s8, s9⟩
        go_simp
        with_reducible rfl
      rotate_left
      · simp only [Act.put, List.setIfInBounds_toArray, List.set_cons_zero, List.set_cons_succ, i64_w, i32_w]
        rfl
      refine one_ (i := 1) (N := some 27) #[true, true, true, false, false, false, false, false, false, false] rfl rfl (one_of HT_.out (by kernel_rfl)) (by decide) (fun K hK => ?_)
      refine goes_ Try.func12 (by kernel_rfl) rfl #[.agg #[.int .i64 t401, .slice Ao22 t402.length co22, .slice Ao23 t405.length co23, .string t408, .int .i64 t409]] (by rfl) rfl rfl (by (try simp only [List.map_toArray, List.map_cons, List.map_nil]); first | done | rfl | (simp only [List.length_drop, List.length_take]; rfl)) ?_
      with_reducible refine (sapwoodlaw04_told.calls kj1 t401 _ _ t402 _ _ t405 t408 t409 t423 t424 t427 t430 t431 _ ?side1 ?side2 ?side3 ?side4 A13.out).mono ?_
      (case side1 => repeat (first | exact (Kd.R_reads' HO404.out).2.2 | (with_reducible refine Kd.C_alloc ?_ _) | (with_reducible refine Kd.C_drewN ?_ _) | (with_reducible refine Kd.C_drew ?_)))
      (case side2 => exact (Kd.R_reads' HO404.out).2.1)
      (case side3 => repeat (first | exact (Kd.R_reads' HO407.out).2.2 | (with_reducible refine Kd.C_alloc ?_ _) | (with_reducible refine Kd.C_drewN ?_ _) | (with_reducible refine Kd.C_drew ?_)))
      (case side4 => exact (Kd.R_reads' HO407.out).2.1)
      rintro e w32 ⟨v425, v428, rfl, ho0, ho1, hb⟩
      refine ⟨_, rfl, ?_⟩
      have n0_ := Aside0.mk (Kd.V_mono (Kd.V_told (Kd.V_told (Kd.V_old (by (with_reducible repeat (first | apply Kd.V_alloc | apply Kd.V_drewN | apply Kd.V_drew)); exact HO400.out) hb) (Kd.R_base ho0)) (Kd.R_base ho1)) (fun _ h_ => h_.1))
      have n1_ := Aside0.mk (Kd.R_below (by (with_reducible repeat (first | apply Kd.R_alloc | apply Kd.R_drewN | apply Kd.R_drew)); exact HO404.out) hb)
      have n2_ := Aside0.mk (Kd.R_below (by (with_reducible repeat (first | apply Kd.R_alloc | apply Kd.R_drewN | apply Kd.R_drew)); exact HO407.out) hb)
      have n3_ := Aside0.mk (Kd.R_elder' (by (with_reducible repeat (first | apply Kd.R_alloc | apply Kd.R_drewN | apply Kd.R_drew)); exact HO415.out) (Kd.R_base ho0) hb)
      have n4_ := Aside0.mk (Kd.R_elder' (by (with_reducible repeat (first | apply Kd.R_alloc | apply Kd.R_drewN | apply Kd.R_drew)); exact HO418.out) (Kd.R_base ho1) hb)
      have n5_ := Aside0.mk (Kd.R_lower (Kd.R_new' ho0 (Kd.R_lt (by (with_reducible repeat (first | apply Kd.R_alloc | apply Kd.R_drewN | apply Kd.R_drew)); exact HO415.out))) (below_size (by repeat (first | (with_reducible first | exact HB.out | apply below_alloc | apply pw_below_drewN | apply below_drew1 | refine below_set ?_ GE411.out | refine below_set ?_ GE422.out) | exact HB.out))))
      have n6_ := Aside0.mk (Kd.R_lower (Kd.R_new' ho1 (Kd.R_lt (by (with_reducible repeat (first | apply Kd.R_alloc | apply Kd.R_drewN | apply Kd.R_drew)); exact HO418.out))) (below_size (by repeat (first | (with_reducible first | exact HB.out | apply below_alloc | apply pw_below_drewN | apply below_drew1 | refine below_set ?_ GE411.out | refine below_set ?_ GE422.out) | exact HB.out))))
      have n7_ := Aside0.mk (blk_below (g := gb411) (o := .cells #[.int .i64 t401, .slice Ao22 t402.length co22, .slice Ao23 t405.length co23, .string t408, .int .i64 t409] 26 (0, 0)) (by (with_reducible repeat (first | refine blk_drewN ?_ _ | refine blk_drew ?_ | refine blk_alloc ?_ _)); exact BK411.out) hb)
      have n8_ := Aside0.mk (blk_below (g := gb422) (o := .cells #[.int .i64 t412, .slice Ao28 t413.length co28, .slice Ao29 t416.length co29, .string t419, .int .i64 t420] 35 (0, 0)) (by (with_reducible repeat (first | refine blk_drewN ?_ _ | refine blk_drew ?_ | refine blk_alloc ?_ _)); exact BK422.out) hb)
      have n9_ := Aside0.mk (below_step (by repeat (first | (with_reducible first | exact HB.out | apply below_alloc | apply pw_below_drewN | apply below_drew1 | refine below_set ?_ GE411.out | refine below_set ?_ GE422.out) | exact HB.out)) hb)
      clear HO400
      clear HO404
      clear HO407
      clear HO415
      clear HO418
      clear BK411
      clear BK422
      clear HB
      have HO400 := n0_
      have HO404 := n1_
      have HO407 := n2_
      have HO415 := n3_
      have HO418 := n4_
      have HO426 := n5_
      have HO429 := n6_
      have BK411 := n7_
      have BK422 := n8_
      have HB := n9_
      clear n0_ n1_ n2_ n3_ n4_ n5_ n6_ n7_ n8_ n9_
      (try clear hb)
      (try clear hb2)
      (try clear hk)
      (try clear hi)
      (try clear ho0)
      (try clear ho1)
      obtain ⟨Ao33, co33, eo33⟩ := Kd.R_slice HO426.out
      (first | subst eo33 | (injection eo33 with f1_ f2_ f3_; have f4_ := f1_.symm; have f5_ := f3_.symm; clear f1_ f2_ f3_; subst f4_; subst f5_))
      obtain ⟨Ao34, co34, eo34⟩ := Kd.R_slice HO429.out
      (first | subst eo34 | (injection eo34 with f1_ f2_ f3_; have f4_ := f1_.symm; have f5_ := f3_.symm; clear f1_ f2_ f3_; subst f4_; subst f5_))
      refine hK.out _ _ ⟨(blk_cell BK411.out 0).trans rfl, (blk_cell BK411.out 1).trans rfl, (blk_cell BK411.out 2).trans rfl, (blk_cell BK411.out 3).trans rfl, (blk_cell BK411.out 4).trans rfl, (blk_cell BK422.out 0).trans rfl, (blk_cell BK422.out 1).trans rfl, (blk_cell BK422.out 2).trans rfl, (blk_cell BK422.out 3).trans rfl, (blk_cell BK422.out 4).trans rfl⟩ (fun hHeld => ?_)
      clear hK K
      refine norm_ (a' := ?_) ?_ ?_
      rotate_left
      · show Act.put _ (some 27) _ = _
        simp only [Act.put, List.setIfInBounds_toArray, List.set_cons_zero, List.set_cons_succ, i64_w, i32_w]
        rfl
      refine one_ (i := 3) (N := some 29) #[true, true, true, true, false, false, false, false, false, false] rfl rfl (one_of HT_.out (by kernel_rfl)) (by decide) (fun K hK => ?_)
      refine goes_ Try.func11 (by kernel_rfl) rfl #[.agg #[.int .i64 t423, .slice Ao33 t424.length co33, .slice Ao34 t427.length co34, .string t430, .int .i64 t431], .agg #[.int .i64 t412, .slice Ao28 t413.length co28, .slice Ao29 t416.length co29, .string t419, .int .i64 t420]] (by rfl) rfl rfl (by (try simp only [List.map_toArray, List.map_cons, List.map_nil]); first | done | rfl | (simp only [List.length_drop, List.length_take]; rfl)) ?_
      with_reducible refine (sapwoodref04_Same.calls kj1 t423 _ _ t424 _ _ t427 t430 t431 t412 _ _ t413 _ _ t416 t419 t420 true _ ?side1 ?side2 ?side3 ?side4 ?side5 ?side6 ?side7 ?side8 A14.out).mono ?_
      (case side1 => repeat (first | exact (Kd.R_reads' HO426.out).2.2 | (with_reducible refine Kd.C_alloc ?_ _) | (with_reducible refine Kd.C_drewN ?_ _) | (with_reducible refine Kd.C_drew ?_)))
      (case side2 => exact (Kd.R_reads' HO426.out).2.1)
      (case side3 => repeat (first | exact (Kd.R_reads' HO429.out).2.2 | (with_reducible refine Kd.C_alloc ?_ _) | (with_reducible refine Kd.C_drewN ?_ _) | (with_reducible refine Kd.C_drew ?_)))
      (case side4 => exact (Kd.R_reads' HO429.out).2.1)
      (case side5 => repeat (first | exact (Kd.R_reads' HO415.out).2.2 | (with_reducible refine Kd.C_alloc ?_ _) | (with_reducible refine Kd.C_drewN ?_ _) | (with_reducible refine Kd.C_drew ?_)))
      (case side6 => exact (Kd.R_reads' HO415.out).2.1)
      (case side7 => repeat (first | exact (Kd.R_reads' HO418.out).2.2 | (with_reducible refine Kd.C_alloc ?_ _) | (with_reducible refine Kd.C_drewN ?_ _) | (with_reducible refine Kd.C_drew ?_)))
      (case side8 => exact (Kd.R_reads' HO418.out).2.1)
      rintro e w35 ⟨rfl, hb⟩
      refine ⟨_, rfl, ?_⟩
      have n0_ := Aside0.mk (Kd.V_below (by (with_reducible repeat (first | apply Kd.V_alloc | apply Kd.V_drewN | apply Kd.V_drew)); exact HO400.out) hb)
      have n1_ := Aside0.mk (Kd.R_below (by (with_reducible repeat (first | apply Kd.R_alloc | apply Kd.R_drewN | apply Kd.R_drew)); exact HO404.out) hb)
      have n2_ := Aside0.mk (Kd.R_below (by (with_reducible repeat (first | apply Kd.R_alloc | apply Kd.R_drewN | apply Kd.R_drew)); exact HO407.out) hb)
      have n3_ := Aside0.mk (Kd.R_below (by (with_reducible repeat (first | apply Kd.R_alloc | apply Kd.R_drewN | apply Kd.R_drew)); exact HO415.out) hb)
      have n4_ := Aside0.mk (Kd.R_below (by (with_reducible repeat (first | apply Kd.R_alloc | apply Kd.R_drewN | apply Kd.R_drew)); exact HO418.out) hb)
      have n5_ := Aside0.mk (Kd.R_below (by (with_reducible repeat (first | apply Kd.R_alloc | apply Kd.R_drewN | apply Kd.R_drew)); exact HO426.out) hb)
      have n6_ := Aside0.mk (Kd.R_below (by (with_reducible repeat (first | apply Kd.R_alloc | apply Kd.R_drewN | apply Kd.R_drew)); exact HO429.out) hb)
      have n7_ := Aside0.mk (blk_below (g := gb411) (o := .cells #[.int .i64 t401, .slice Ao22 t402.length co22, .slice Ao23 t405.length co23, .string t408, .int .i64 t409] 26 (0, 0)) (by (with_reducible repeat (first | refine blk_drewN ?_ _ | refine blk_drew ?_ | refine blk_alloc ?_ _)); exact BK411.out) hb)
      have n8_ := Aside0.mk (blk_below (g := gb422) (o := .cells #[.int .i64 t412, .slice Ao28 t413.length co28, .slice Ao29 t416.length co29, .string t419, .int .i64 t420] 35 (0, 0)) (by (with_reducible repeat (first | refine blk_drewN ?_ _ | refine blk_drew ?_ | refine blk_alloc ?_ _)); exact BK422.out) hb)
      have n9_ := Aside0.mk (below_step (by repeat (first | (with_reducible first | exact HB.out | apply below_alloc | apply pw_below_drewN | apply below_drew1 | refine below_set ?_ GE411.out | refine below_set ?_ GE422.out) | exact HB.out)) hb)
      clear HO400
      clear HO404
      clear HO407
      clear HO415
      clear HO418
      clear HO426
      clear HO429
      clear BK411
      clear BK422
      clear HB
      have HO400 := n0_
      have HO404 := n1_
      have HO407 := n2_
      have HO415 := n3_
      have HO418 := n4_
      have HO426 := n5_
      have HO429 := n6_
      have BK411 := n7_
      have BK422 := n8_
      have HB := n9_
      clear n0_ n1_ n2_ n3_ n4_ n5_ n6_ n7_ n8_ n9_
      (try clear hb)
      (try clear hb2)
      (try clear hk)
      (try clear hi)
      refine hK.out _ _ ⟨(blk_cell BK411.out 0).trans rfl, (blk_cell BK411.out 1).trans rfl, (blk_cell BK411.out 2).trans rfl, (blk_cell BK411.out 3).trans rfl, (blk_cell BK411.out 4).trans rfl, (blk_cell BK422.out 0).trans rfl, (blk_cell BK422.out 1).trans rfl, (blk_cell BK422.out 2).trans rfl, (blk_cell BK422.out 3).trans rfl, (blk_cell BK422.out 4).trans rfl⟩ (fun hHeld => ?_)
      clear hK K
      refine norm_ (a' := ?_) ?_ ?_
      rotate_left
      · show Act.put _ (some 29) _ = _
        simp only [Act.put, List.setIfInBounds_toArray, List.set_cons_zero, List.set_cons_succ, i64_w, i32_w]
        rfl
      refine pure_ (i := 4) (N := some 30) (v := ?_) (a' := ?_) #[true, true, true, true, true, false, false, false, false, false] rfl rfl (any_of HT_.out (by kernel_rfl)) (fun _ _ _ h => h) (Or.inl ⟨by rfl, ?_⟩) ?_ ?_
      rotate_left
      · intro w'
        go_simp
        with_reducible rfl
      rotate_left
      · simp only [Act.put, List.setIfInBounds_toArray, List.set_cons_zero, List.set_cons_succ, i64_w, i32_w]
        rfl
      refine pure_ (i := 5) (N := some 31) (v := ?_) (a' := ?_) #[true, true, true, true, true, true, false, false, false, false] rfl rfl (any_of HT_.out (by kernel_rfl)) (fun _ _ _ h => h) (Or.inl ⟨by rfl, ?_⟩) ?_ ?_
      rotate_left
      · intro w'
        go_simp
        with_reducible rfl
      rotate_left
      · simp only [Act.put, List.setIfInBounds_toArray, List.set_cons_zero, List.set_cons_succ, i64_w, i32_w]
        rfl
      refine pure_ (i := 6) (N := some 32) (v := ?_) (a' := ?_) #[true, true, true, true, true, true, true, false, false, false] rfl rfl (any_of HT_.out (by kernel_rfl)) (fun _ _ _ h => h) (Or.inl ⟨by rfl, ?_⟩) ?_ ?_
      rotate_left
      · intro w'
        go_simp
        with_reducible rfl
      rotate_left
      · simp only [Act.put, List.setIfInBounds_toArray, List.set_cons_zero, List.set_cons_succ, i64_w, i32_w]
        rfl
      refine pure_ (i := 7) (N := some 33) (v := ?_) (a' := ?_) #[true, true, true, true, true, true, true, true, false, false] rfl rfl (any_of HT_.out (by kernel_rfl)) (fun _ _ _ h => h) (Or.inl ⟨by rfl, ?_⟩) ?_ ?_
      rotate_left
      · intro w'
        go_simp
        with_reducible rfl
      rotate_left
      · simp only [Act.put, List.setIfInBounds_toArray, List.set_cons_zero, List.set_cons_succ, i64_w, i32_w]
        rfl
      refine pure_ (i := 8) (N := some 34) (v := ?_) (a' := ?_) #[true, true, true, true, true, true, true, true, true, false] rfl rfl (any_of HT_.out (by kernel_rfl)) (fun _ _ _ h => h) (Or.inl ⟨by rfl, ?_⟩) ?_ ?_
      rotate_left
      · intro w'
        go_simp
        with_reducible rfl
      rotate_left
      · simp only [Act.put, List.setIfInBounds_toArray, List.set_cons_zero, List.set_cons_succ, i64_w, i32_w]
        rfl
      refine pure_ (i := 9) (N := some 2) (v := ?_) (a' := ?_) #[true, true, true, true, true, true, true, true, true, true] rfl rfl (any_of HT_.out (by kernel_rfl)) (fun _ _ _ h => h) (Or.inl ⟨by rfl, ?_⟩) ?_ ?_
      rotate_left
      · intro w'
        go_simp
        with_reducible rfl
      rotate_left
      · simp only [Act.put, List.setIfInBounds_toArray, List.set_cons_zero, List.set_cons_succ, i64_w, i32_w]
        rfl
      refine done_ (done_of HT_.out (by kernel_rfl)) ?_
      try go_wp2
      go_ret
      exact ⟨by first | rfl | (simp [errW_none, errW_some] <;> rfl) | (simp [*, errW_none, errW_some] <;> rfl), by repeat (first | (with_reducible first | exact HB.out | apply below_alloc | apply pw_below_drewN | apply below_drew1 | refine below_set ?_ GE411.out | refine below_set ?_ GE422.out) | exact HB.out)⟩
def pageDecodes0.Pure : Prop := ∀ (a0 : ByteArray), a0.size ≤ 140737488351232 → ∃ k, pageDecodes0.f k a0 = some true
theorem pageDecodes0.walk (P : pageDecodes0.Pure) (a0 : ByteArray) (w : World) (w0 : a0.size ≤ 140737488351232) :
    Calls Try.prog 7 #[.string a0] w fun e w' => e = .returned (.bool true) ∧ Below w.heap.size w w' := by
  obtain ⟨k, h⟩ := P a0 w0
  refine (pageDecodes0.calls k a0 true w h).mono ?_
  rintro e w' ⟨rfl, hd⟩
  exact ⟨rfl, hd⟩
end Go.Proofs.Ytgbcfkcnoncgdaa.Sp
