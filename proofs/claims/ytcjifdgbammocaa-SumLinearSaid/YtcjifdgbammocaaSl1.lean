-- by fakeprint.py
import Derived.Test.YtcjifdgbammocaaSl0
namespace Go.Proofs.Ytcjifdgbammocaa.Sl
open Go.Proofs.Ytcjifdgbammocaa.Hand
open Go.RowKit Go.Proofs.YtcjifdgbammocaaW.PrintWords Go.Proofs.YtcjifdgbammocaaW.PrintLast Go.Proofs.YtcjifdgbammocaaW.PrintMore
attribute [local go_sem] max2_int min2_int max_two min_two max_three min_three max_four min_four   -- for this text's walks alone
set_option linter.unusedVariables false
set_option linter.unusedSimpArgs false

-- NOT PRINTED: function 16 (sum_halves)

/-! ### sumLinear0: function 3 -/
mutual
def sumLinear0.j0 : Nat → ByteArray → ByteArray → Bool → Option (Bool)
  | 0, _, _, _ => none
  | k + 1, x0, x1, x19 => if x19 = true then ((sapwoodlaw02_awake.f).bind fun t108 => (some t108)) else (if 0 ≤ (mn (x0.size : Int) (x1.size : Int)) then (if (mn (x0.size : Int) (x1.size : Int) : Int).toNat ≤ 281474976710656 then ((some (List.replicate (mn (x0.size : Int) (x1.size : Int) : Int).toNat 0 : List Int)).bind fun y109 => (sumLinear0.l0 k x0 x1 (mn (x0.size : Int) (x1.size : Int)) y109 (y109.length : Int) 0)) else (none)) else (none))
def sumLinear0.l0 : Nat → ByteArray → ByteArray → Int → List Int → Int → Int → Option (Bool)
  | 0, _, _, _, _, _, _ => none
  | k + 1, x0, x1, x5, x6, x29, x30 => if x30 < x29 then (if 0 ≤ x30 then (if x30 < (x0.size : Int) then (if x30 < (x1.size : Int) then (if x30 < (x6.length : Int) then (sumLinear0.l0 k x0 x1 x5 (x6.set (x30 : Int).toNat (Go.bits .xor .u8 (bt x0 x30) (bt x1 x30))) x29 (wrap64 (x30 + 1))) else (none)) else (none)) else (none)) else (none)) else ((sum_Of.f x6).bind fun t113 => (if 0 ≤ x5 then (if x5 ≤ (x0.size : Int) then (if (x0.extract 0 (x5 : Int).toNat).size ≤ 9223372036854775807 then ((sum_Of.f (bytesOf (x0.extract 0 (x5 : Int).toNat))).bind fun t117 => (if x5 ≤ (x1.size : Int) then (if (x1.extract 0 (x5 : Int).toNat).size ≤ 9223372036854775807 then ((sum_Of.f (bytesOf (x1.extract 0 (x5 : Int).toNat))).bind fun t121 => (if (x5 : Int).toNat ≤ 281474976710656 then ((sum_Of.f (List.replicate (x5 : Int).toNat 0)).bind fun t125 => (some (t113 == (Go.bits .xor .u32 (Go.bits .xor .u32 t117 t121) t125)))) else (none))) else (none)) else (none))) else (none)) else (none)) else (none)))
end
def sumLinear0.f (k : Nat) (a0 : ByteArray) (a1 : ByteArray) : Option (Bool) := (sapwoodlaw02_awake.f).bind fun t107 => (if t107 = true then (if (a0.size : Int) > 5000 then (sumLinear0.j0 k a0 a1 true) else (sumLinear0.j0 k a0 a1 (decide ((a1.size : Int) > 5000)))) else (sumLinear0.j0 k a0 a1 true))
theorem sumLinear0.mono_l : ∀ k, (∀ y0 y1 y2, LeO (sumLinear0.j0 k y0 y1 y2) (sumLinear0.j0 (k + 1) y0 y1 y2)) ∧ (∀ y0 y1 y2 y3 y4 y5, LeO (sumLinear0.l0 k y0 y1 y2 y3 y4 y5) (sumLinear0.l0 (k + 1) y0 y1 y2 y3 y4 y5))
  | 0 => ⟨fun _ _ _ r h => by simp [sumLinear0.j0] at h, fun _ _ _ _ _ _ r h => by simp [sumLinear0.l0] at h⟩
  | k + 1 => by
    obtain ⟨ih0, ih1⟩ := sumLinear0.mono_l k
    refine ⟨?_, ?_⟩
    · intro y0 y1 y2
      unfold sumLinear0.j0
      repeat' first
      | (with_reducible exact ih0 _ _ _)
      | (with_reducible exact ih1 _ _ _ _ _ _)
      | (with_reducible exact LeO.refl _)
      | (with_reducible exact LeO.none _)
      | (with_reducible refine LeO.ite ?_ ?_)
      | (with_reducible refine LeO.bind ?_ (fun _ => ?_))
      | exact ih0 _ _ _
      | exact ih1 _ _ _ _ _ _
      | exact LeO.none _
      | refine LeO.ite ?_ ?_
      | refine LeO.bind ?_ (fun _ => ?_)
    · intro y0 y1 y2 y3 y4 y5
      unfold sumLinear0.l0
      repeat' first
      | (with_reducible exact ih0 _ _ _)
      | (with_reducible exact ih1 _ _ _ _ _ _)
      | (with_reducible exact LeO.refl _)
      | (with_reducible exact LeO.none _)
      | (with_reducible refine LeO.ite ?_ ?_)
      | (with_reducible refine LeO.bind ?_ (fun _ => ?_))
      | exact ih0 _ _ _
      | exact ih1 _ _ _ _ _ _
      | exact LeO.none _
      | refine LeO.ite ?_ ?_
      | refine LeO.bind ?_ (fun _ => ?_)
theorem sumLinear0.mono : ∀ a0 a1 k, LeO (sumLinear0.f k a0 a1) (sumLinear0.f (k + 1) a0 a1) := by
  intro a0 a1 k
  obtain ⟨ih0, ih1⟩ := sumLinear0.mono_l k
  unfold sumLinear0.f
  repeat' first
      | (with_reducible exact ih0 _ _ _)
      | (with_reducible exact ih1 _ _ _ _ _ _)
      | (with_reducible exact LeO.refl _)
      | (with_reducible exact LeO.none _)
      | (with_reducible refine LeO.ite ?_ ?_)
      | (with_reducible refine LeO.bind ?_ (fun _ => ?_))
      | exact ih0 _ _ _
      | exact ih1 _ _ _ _ _ _
      | exact LeO.none _
      | refine LeO.ite ?_ ?_
      | refine LeO.bind ?_ (fun _ => ?_)
def sumLinear0.T8 : Bool × List (List Nat × List Nat) := (true, [([], []), ([], []), ([], []), ([], []), ([2, 3], [2, 3]), ([], []), ([], []), ([5, 6], [5, 6]), ([4, 7], [4, 7]), ([0, 1, 0, 1, 2, 3, 4, 5, 6, 7, 8], [0, 1]), ([9, 8, 0, 1, 2, 3, 4, 5, 6, 7, 8], [8, 9])])
def sumLinear0.B8 : List Nat := [0, 0, 0, 0, 12, 0, 0, 96, 252, 511, 1023]
theorem sumLinear0.tab8 : rtab .any (opsOf Try.f3 8) = sumLinear0.T8 := by kernel_rfl
theorem sumLinear0.bits8 : waitsOk sumLinear0.T8.2 sumLinear0.B8 = true := by kernel_rfl
def sumLinear0.T10 : Bool × List (List Nat × List Nat) := (true, [([], []), ([0], [0]), ([], []), ([], []), ([2, 3], [2, 3]), ([4], [4]), ([5, 1], [5]), ([], []), ([], []), ([7, 8], [7, 8]), ([9], [9]), ([10, 6], [10]), ([6, 11], [6, 11]), ([], []), ([13, 13], [13]), ([14, 11], [14]), ([12, 15], [12, 15]), ([1, 16], [1, 16]), ([17, 15, 0, 1, 2, 3, 4, 5, 6, 7, 8, 9, 10, 11, 12, 13, 14, 15, 16, 17], [17])])
def sumLinear0.B10 : List Nat := [0, 1, 0, 0, 12, 28, 63, 0, 0, 384, 896, 2047, 4095, 0, 8192, 28671, 65535, 131071, 262143]
theorem sumLinear0.tab10 : rtab .any (opsOf Try.f3 10) = sumLinear0.T10 := by kernel_rfl
theorem sumLinear0.bits10 : waitsOk sumLinear0.T10.2 sumLinear0.B10 = true := by kernel_rfl
set_option maxHeartbeats 8000000 in
set_option maxRecDepth 100000 in
theorem sumLinear0.calls (k : Nat) (a0 : ByteArray) (a1 : ByteArray) (r : Bool) (w : World) (h : sumLinear0.f k a0 a1 = some r) :
    Calls Try.prog 3 #[.string a0, .string a1] w fun e w' => e = .returned (.bool r) ∧ Below w.heap.size w w' := by
  have HB := Aside0.mk (Below.refl w.heap.size w)
  have H : ((sapwoodlaw02_awake.f).bind fun t107 => (if t107 = true then (if (a0.size : Int) > 5000 then (sumLinear0.j0 k a0 a1 true) else (sumLinear0.j0 k a0 a1 (decide ((a1.size : Int) > 5000)))) else (sumLinear0.j0 k a0 a1 true))) = some r := h
  clear h
  have HC3 := Aside0.mk H
  clear H
  go_enter Try.func3, Try.ntmps3
  go_upto_region 1 with (fail)
  go_cut [19] (fun v19 wc => ∃ (kq : Nat) (x19_2 : Bool), v19 = .bool x19_2 ∧ Aside0 (sumLinear0.j0 kq a0 a1 x19_2 = some r) ∧ Aside0 (kq ≤ k) ∧ Aside0 (Below w.heap.size w wc))
  case first =>
    have H := HC3.out
    clear HC3
    replace H := Option.bind_eq_some_iff.mp H
    obtain ⟨t107, A40, H⟩ := H
    replace H : (if t107 = true then (if (a0.size : Int) > 5000 then (sumLinear0.j0 k a0 a1 true) else (sumLinear0.j0 k a0 a1 (decide ((a1.size : Int) > 5000)))) else (sumLinear0.j0 k a0 a1 true)) = some r := H
    have A4 := Aside0.mk A40
    clear A40
    by_cases c5 : t107 = true
    · subst c5
      have H1 : (if (a0.size : Int) > 5000 then (sumLinear0.j0 k a0 a1 true) else (sumLinear0.j0 k a0 a1 (decide ((a1.size : Int) > 5000)))) = some r := by rw [if_pos rfl] at H; exact H
      clear H
      have H := H1
      clear H1
      by_cases c6 : (a0.size : Int) > 5000
      · rw [if_pos c6] at H
        have c6b0 : decide (5000 < (a0.size : Int)) = true := decide_eq_true c6
        have c6b1 : decide (5000 < a0.size) = true := decide_eq_true (by omega)
        clear c6
        (first | rw [c6b0] | (simp only [i64_w, i32_w]; rw [c6b0]) | skip)
        have H' := Aside0.mk H
        clear H
        go_wp2_with (first | ((with_reducible refine gate_callee (f := 9) rfl ?_); refine goesL_ (some 8) rfl rfl Try.func9 (by kernel_rfl) rfl #[] rfl (by (try simp only [List.map_toArray, List.map_cons, List.map_nil]); first | done | rfl | (simp only [List.length_drop, List.length_take]; rfl)) ?_; (with_reducible refine (sapwoodlaw02_awake.calls  true _ A4.out).mono ?_); rintro e w7 ⟨rfl, hb⟩; refine ⟨_, rfl, ?_⟩; have n0_ := Aside0.mk (below_step (by repeat (first | (with_reducible first | exact HB.out | apply below_alloc | apply pw_below_drewN | apply below_drew1) | exact HB.out)) hb); clear HB; have HB := n0_; clear n0_; (try clear hb); (try clear hb2); (try clear hk); (try clear hi)))
        go_meet
        case rel => exact ⟨_, (true), (by first | rfl | (simp; done) | (simp [*]; done)), H', ⟨by first | omega | exact Nat.le_refl _⟩, ⟨by repeat (first | (with_reducible first | exact HB.out | apply below_alloc | apply pw_below_drewN | apply below_drew1) | exact HB.out)⟩⟩
      · rw [if_neg c6] at H
        have c6b0 : decide (5000 < (a0.size : Int)) = false := decide_eq_false c6
        have c6b1 : decide (5000 < a0.size) = false := decide_eq_false (by omega)
        clear c6
        (first | rw [c6b0] | (simp only [i64_w, i32_w]; rw [c6b0]) | skip)
        have H' := Aside0.mk H
        clear H
        go_wp2_with (first | ((with_reducible refine gate_callee (f := 9) rfl ?_); refine goesL_ (some 8) rfl rfl Try.func9 (by kernel_rfl) rfl #[] rfl (by (try simp only [List.map_toArray, List.map_cons, List.map_nil]); first | done | rfl | (simp only [List.length_drop, List.length_take]; rfl)) ?_; (with_reducible refine (sapwoodlaw02_awake.calls  true _ A4.out).mono ?_); rintro e w8 ⟨rfl, hb⟩; refine ⟨_, rfl, ?_⟩; have n0_ := Aside0.mk (below_step (by repeat (first | (with_reducible first | exact HB.out | apply below_alloc | apply pw_below_drewN | apply below_drew1) | exact HB.out)) hb); clear HB; have HB := n0_; clear n0_; (try clear hb); (try clear hb2); (try clear hk); (try clear hi)))
        go_meet
        case rel => exact ⟨_, (decide ((a1.size : Int) > 5000)), (by first | rfl | (simp; done) | (simp [*]; done)), H', ⟨by first | omega | exact Nat.le_refl _⟩, ⟨by repeat (first | (with_reducible first | exact HB.out | apply below_alloc | apply pw_below_drewN | apply below_drew1) | exact HB.out)⟩⟩
    · replace c5 := Bool.eq_false_iff.mpr c5
      subst c5
      have H1 : (sumLinear0.j0 k a0 a1 true) = some r := by rw [if_neg (show ¬ (false = true) by decide)] at H; exact H
      clear H
      have H := H1
      clear H1
      have H' := Aside0.mk H
      clear H
      go_wp2_with (first | ((with_reducible refine gate_callee (f := 9) rfl ?_); refine goesL_ (some 8) rfl rfl Try.func9 (by kernel_rfl) rfl #[] rfl (by (try simp only [List.map_toArray, List.map_cons, List.map_nil]); first | done | rfl | (simp only [List.length_drop, List.length_take]; rfl)) ?_; (with_reducible refine (sapwoodlaw02_awake.calls  false _ A4.out).mono ?_); rintro e w9 ⟨rfl, hb⟩; refine ⟨_, rfl, ?_⟩; have n0_ := Aside0.mk (below_step (by repeat (first | (with_reducible first | exact HB.out | apply below_alloc | apply pw_below_drewN | apply below_drew1) | exact HB.out)) hb); clear HB; have HB := n0_; clear n0_; (try clear hb); (try clear hb2); (try clear hk); (try clear hi)))
      go_meet
      case rel => exact ⟨_, (true), (by first | rfl | (simp; done) | (simp [*]; done)), H', ⟨by first | omega | exact Nat.le_refl _⟩, ⟨by repeat (first | (with_reducible first | exact HB.out | apply below_alloc | apply pw_below_drewN | apply below_drew1) | exact HB.out)⟩⟩
  case rest =>
    clear HC3
    try clear p2
    try clear c3
    try clear c5
    try clear c6
    try clear c6b0
    try clear c6b1
    try clear c9
    obtain ⟨kq, x19_2, rfl, HA, HJ2, HB⟩ := hcut
    cases kq with
    | zero => exact absurd HA.out (by simp [sumLinear0.j0])
    | succ kj2 =>
      have H := HA.out
      clear HA
      simp only [sumLinear0.j0] at H
      by_cases c10 : x19_2 = true
      · subst c10
        have H1 : ((sapwoodlaw02_awake.f).bind fun t108 => (some t108)) = some r := by rw [if_pos rfl] at H; exact H
        clear H
        have H := H1
        clear H1
        replace H := Option.bind_eq_some_iff.mp H
        obtain ⟨t108, A110, H⟩ := H
        replace H : (some t108) = some r := H
        have A11 := Aside0.mk A110
        clear A110
        obtain rfl := Option.some.inj H
        go_wp2_with (first | ((with_reducible refine gate_callee (f := 9) rfl ?_); refine goesL_ (some 20) rfl rfl Try.func9 (by kernel_rfl) rfl #[] rfl (by (try simp only [List.map_toArray, List.map_cons, List.map_nil]); first | done | rfl | (simp only [List.length_drop, List.length_take]; rfl)) ?_; (with_reducible refine (sapwoodlaw02_awake.calls  t108 _ A11.out).mono ?_); rintro e w12 ⟨rfl, hb⟩; refine ⟨_, rfl, ?_⟩; have n0_ := Aside0.mk (below_step (by repeat (first | (with_reducible first | exact HB.out | apply below_alloc | apply pw_below_drewN | apply below_drew1) | exact HB.out)) hb); clear HB; have HB := n0_; clear n0_; (try clear hb); (try clear hb2); (try clear hk); (try clear hi)))
        go_ret
        exact ⟨by first | rfl | (simp [errW_none, errW_some] <;> rfl) | (simp [*, errW_none, errW_some] <;> rfl), by repeat (first | (with_reducible first | exact HB.out | apply below_alloc | apply pw_below_drewN | apply below_drew1) | exact HB.out)⟩
      · replace c10 := Bool.eq_false_iff.mpr c10
        subst c10
        have H1 : (if 0 ≤ (mn (a0.size : Int) (a1.size : Int)) then (if (mn (a0.size : Int) (a1.size : Int) : Int).toNat ≤ 281474976710656 then ((some (List.replicate (mn (a0.size : Int) (a1.size : Int) : Int).toNat 0 : List Int)).bind fun y109 => (sumLinear0.l0 kj2 a0 a1 (mn (a0.size : Int) (a1.size : Int)) y109 (y109.length : Int) 0)) else (none)) else (none)) = some r := by rw [if_neg (show ¬ (false = true) by decide)] at H; exact H
        clear H
        have H := H1
        clear H1
        obtain ⟨ji13, hji13⟩ : ∃ j_ : Int, (mn (a0.size : Int) (a1.size : Int)) = j_ := ⟨_, rfl⟩
        replace H : (if 0 ≤ (ji13) then (if (ji13 : Int).toNat ≤ 281474976710656 then ((some (List.replicate (ji13 : Int).toNat 0 : List Int)).bind fun y109 => (sumLinear0.l0 kj2 a0 a1 ji13 y109 (y109.length : Int) 0)) else (none)) else (none)) = some r := by first | (rw [hji13] at H; exact H) | (simp only [hji13] at H ⊢; exact H)
        have hji13_ : (if (a1.size : Int) < (a0.size : Int) then (a1.size : Int) else (a0.size : Int)) = ji13 := hji13
        have hji13n : (if a1.size < a0.size then (a1.size : Int) else (a0.size : Int)) = ji13 := by rw [← hji13_]; simp only [Int.ofNat_lt]
        by_cases c14 : 0 ≤ (ji13)
        · rw [if_pos c14] at H
          have c14b0 := eq_true c14
          have c14b1 : decide (0 ≤ (ji13)) = true := decide_eq_true c14
          clear c14
          by_cases c15 : (ji13 : Int).toNat ≤ 281474976710656
          · rw [if_pos c15] at H
            have c15b0 := eq_true c15
            have c15b1 : decide ((ji13 : Int).toNat ≤ 281474976710656) = true := decide_eq_true c15
            clear c15
            obtain ⟨y109, hy109⟩ : ∃ y_ : List Int, y_ = (List.replicate (ji13 : Int).toNat 0) := ⟨_, rfl⟩
            replace H : (sumLinear0.l0 kj2 a0 a1 ji13 y109 (y109.length : Int) 0) = some r := by first | (rw [hy109]; with_reducible exact H) | (have H2_ := (Option.bind_some _ _).symm.trans H; rw [hy109]; with_reducible exact H2_) | (have H2_ := (Option.bind_some _ _).symm.trans H; with_reducible exact H2_) | with_reducible exact H | (rw [hy109]; exact H) | exact H
            have Ny109 := Aside0.mk hy109
            clear hy109
            have H' := Aside0.mk H
            clear H
            go_wp2_with (first | ((with_reducible refine gate_dst (N := 27) rfl ?_); (try (refine gate_guard (by rfl) ?_; dsimp only)); refine Kd.R_make (Kd.int .u8) _ 5 rfl (N := 27) rfl 23 _ _ rfl ji13 rfl rfl Try.underlying23 (.int .u8 0) 1 info5 rfl (by decide) (by omega) 0 (ok := fun _ => True) (okp := fun _ => True) rfl (fun _ hk => hk) trivial (of_decide_eq_true (by first | (with_reducible assumption) | assumption)) (Nat.le_trans (Nat.mul_le_mul_right _ (of_decide_eq_true (by first | (with_reducible assumption) | assumption) : ji13.toNat ≤ 281474976710656)) (by omega)) (Below.refl _ _) (Nat.le_refl _) ?_; intro v110 w16 ho17 hb hg_ hnew_; clear hg_ hnew_; (first | rw [← Ny109.out] at ho17 | (simp only [Int.reduceToNat] at ho17; rw [← Ny109.out] at ho17)); have n0_ := Aside0.mk (Kd.R_lower ho17 (below_size (by repeat (first | (with_reducible first | exact HB.out | apply below_alloc | apply pw_below_drewN | apply below_drew1) | exact HB.out)))); have n1_ := Aside0.mk (below_step (by repeat (first | (with_reducible first | exact HB.out | apply below_alloc | apply pw_below_drewN | apply below_drew1) | exact HB.out)) hb); clear HB; have HO111 := n0_; have HB := n1_; clear n0_ n1_; clear hb ho17; obtain ⟨Ao18, co18, eo18⟩ := Kd.R_slice HO111.out; subst eo18))
            go_loopg [30] kj2 (fun kq v30 w' => ∃ (x6_2 : List Int) (x30_2 : Int), v30 = .int .i64 x30_2 ∧ Aside0 (sumLinear0.l0 kq a0 a1 ji13 x6_2 (y109.length : Int) x30_2 = some r) ∧ Aside0 (kq ≤ kj2) ∧ Aside0 (Kd.R (Kd.int .u8) 5 w' w.heap.size (fun _ => True) (.slice Ao18 y109.length co18) x6_2) ∧ Aside0 (Below w.heap.size w w'))
            case atStart => exact ⟨(y109), (0), (by first | rfl | (simp; done) | (simp [*]; done)), H', ⟨Nat.le_refl _⟩, ⟨by (with_reducible repeat (first | apply Kd.R_alloc | apply Kd.R_drewN | apply Kd.R_drew)); exact HO111.out⟩, ⟨by repeat (first | (with_reducible first | exact HB.out | apply below_alloc | apply pw_below_drewN | apply below_drew1) | exact HB.out)⟩⟩
            case round =>
              clear H'
              try clear c1
              try clear p2
              try clear c3
              try clear c5
              try clear c6
              try clear c6b0
              try clear c6b1
              try clear c9
              try clear c10
              try clear c14
              try clear c14b0
              try clear c14b1
              try clear c15
              try clear c15b0
              try clear c15b1
              try clear p2
              obtain ⟨x6_2, x30_2, rfl, HA, HK2, HO_6, HB⟩ := hrel
              have hl6_2 := (Kd.R_reads' HO_6.out).1
              rw [hl6_2] at HO_6
              (try simp only [hl6_2])
              cases gk with
              | zero => exact absurd HA.out (by simp [sumLinear0.l0])
              | succ k2 =>
                have H := HA.out
                clear HA
                simp only [sumLinear0.l0] at H
                by_cases c19 : x30_2 < (y109.length : Int)
                · rw [if_pos c19] at H
                  have c19b0 : decide (x30_2 < (y109.length : Int)) = true := decide_eq_true c19
                  clear c19
                  by_cases c20 : 0 ≤ x30_2
                  · rw [if_pos c20] at H
                    have c20b0 : decide (0 ≤ x30_2) = true := decide_eq_true c20
                    clear c20
                    by_cases c21 : x30_2 < (a0.size : Int)
                    · rw [if_pos c21] at H
                      have c21b0 : decide (x30_2 < (a0.size : Int)) = true := decide_eq_true c21
                      clear c21
                      by_cases c23 : x30_2 < (a1.size : Int)
                      · rw [if_pos c23] at H
                        have c23b0 : decide (x30_2 < (a1.size : Int)) = true := decide_eq_true c23
                        clear c23
                        by_cases c25 : x30_2 < (x6_2.length : Int)
                        · rw [if_pos c25] at H
                          have c25b0 : decide (x30_2 < (x6_2.length : Int)) = true := decide_eq_true c25
                          clear c25
                          obtain ⟨y112, hy112⟩ : ∃ y_ : List Int, y_ = (x6_2.set (x30_2 : Int).toNat (Go.bits .xor .u8 (bt a0 x30_2) (bt a1 x30_2))) := ⟨_, rfl⟩
                          replace H : (sumLinear0.l0 k2 a0 a1 ji13 y112 (y109.length : Int) (wrap64 (x30_2 + 1))) = some r := by first | (rw [hy112]; with_reducible exact H) | (have H2_ := (Option.bind_some _ _).symm.trans H; rw [hy112]; with_reducible exact H2_) | (have H2_ := (Option.bind_some _ _).symm.trans H; with_reducible exact H2_) | with_reducible exact H | (rw [hy112]; exact H) | exact H
                          have Ny112 := Aside0.mk hy112
                          clear hy112
                          have H' := Aside0.mk H
                          clear H
                          try go_wp2
                          have n0_ := Aside0.mk (Kd.R_drew HO_6.out)
                          have n1_ := Aside0.mk (below_drew1 HB.out)
                          clear HO_6
                          clear HB
                          have HO_6 := n0_
                          have HB := n1_
                          clear n0_ n1_
                          have p22 : 0 ≤ (x30_2 : Int) := of_decide_eq_true (by first | (with_reducible assumption) | assumption)
                          have q22 : x30_2 < (a0.size : Int) := of_decide_eq_true (by first | (with_reducible assumption) | assumption)
                          have hx22 := bt_at a0 x30_2
                          replace p22 := eq_true p22
                          replace q22 := eq_true q22
                          have p24 : 0 ≤ (x30_2 : Int) := of_decide_eq_true (by first | (with_reducible assumption) | assumption)
                          have q24 : x30_2 < (a1.size : Int) := of_decide_eq_true (by first | (with_reducible assumption) | assumption)
                          have hx24 := bt_at a1 x30_2
                          replace p24 := eq_true p24
                          replace q24 := eq_true q24
                          have p26 : 0 ≤ (x30_2 : Int) := of_decide_eq_true (by first | (with_reducible assumption) | assumption)
                          have q26 : (x30_2 : Int) < ((x6_2.length : Int) : Int) := of_decide_eq_true (by first | (with_reducible assumption) | assumption)
                          obtain ⟨go26, co26, eo26, gb26, gl26, cl26, HG26⟩ := Kd.R_form HO_6.out (by omega)
                          (first | cases eo26 | (injection eo26 with ea_ en_ ec_; (first | subst ea_ | (injection ea_ with ea_; subst ea_)); subst ec_; clear en_))
                          have GB26 := Aside0.mk gb26
                          have GG26 := Aside0.mk HG26
                          clear gb26 gl26 HG26
                          obtain ⟨hx26_0, hf26_0⟩ := Kd.R_celln 0 HO_6.out (x30_2 : Int) p26 q26
                          replace p26 := eq_true p26
                          replace q26 := eq_true q26
                          have HP28 := Kd.R_putn HO_6.out (x30_2 : Int) (Go.bits .xor .u8 (bt a0 x30_2) (bt a1 x30_2))
                          rw [← Ny112.out] at HP28
                          have HQ28 := Aside0.mk HP28
                          clear HP28
                          refine start_ (n := 11) (S := fun w' => True) (ds := [10]) #[false, false, false, false, false, false, false, false, false, false, false] (by kernel_rfl) rfl rfl trivial (fun hHeld => ?_); refine with_tabW sumLinear0.tab8 sumLinear0.bits8 (fun HT_ HW_ => ?_)
                          generalize wr.drew = w27 at HO_6 HB GG26 HQ28 hf26_0 hx26_0 hHeld ⊢
                          refine pure_ (i := 0) (N := some 33) (v := ?_) (a' := ?_) #[true, false, false, false, false, false, false, false, false, false, false] rfl rfl (any_of HT_.out (by kernel_rfl)) (fun _ _ _ h => h) (Or.inl ⟨by rfl, ?_⟩) ?_ ?_
                          rotate_left
                          · intro w'
                            go_simp
                            with_reducible rfl
                          rotate_left
                          · simp only [Act.put, List.setIfInBounds_toArray, List.set_cons_zero, List.set_cons_succ, i64_w, i32_w]
                            rfl
                          refine pure_ (i := 1) (N := some 34) (v := ?_) (a' := ?_) #[true, true, false, false, false, false, false, false, false, false, false] rfl rfl (any_of HT_.out (by kernel_rfl)) (fun _ _ _ h => h) (Or.inl ⟨by rfl, ?_⟩) ?_ ?_
                          rotate_left
                          · intro w'
                            go_simp
                            with_reducible rfl
                          rotate_left
                          · simp only [Act.put, List.setIfInBounds_toArray, List.set_cons_zero, List.set_cons_succ, i64_w, i32_w]
                            rfl
                          refine pure_ (i := 2) (N := some 35) (v := ?_) (a' := ?_) #[true, true, true, false, false, false, false, false, false, false, false] rfl rfl (any_of HT_.out (by kernel_rfl)) (fun _ _ _ h => h) (Or.inl ⟨by rfl, ?_⟩) ?_ ?_
                          rotate_left
                          · intro w'
                            go_simp
                            with_reducible rfl
                          rotate_left
                          · simp only [Act.put, List.setIfInBounds_toArray, List.set_cons_zero, List.set_cons_succ, i64_w, i32_w]
                            rfl
                          refine pure_ (i := 3) (N := some 36) (v := ?_) (a' := ?_) #[true, true, true, true, false, false, false, false, false, false, false] rfl rfl (any_of HT_.out (by kernel_rfl)) (fun _ _ _ h => h) (Or.inl ⟨by rfl, ?_⟩) ?_ ?_
                          rotate_left
                          · intro w'
                            go_simp
                            with_reducible rfl
                          rotate_left
                          · simp only [Act.put, List.setIfInBounds_toArray, List.set_cons_zero, List.set_cons_succ, i64_w, i32_w]
                            rfl
                          refine pure_ (i := 5) (N := some 38) (v := ?_) (a' := ?_) #[true, true, true, true, false, true, false, false, false, false, false] rfl rfl (any_of HT_.out (by kernel_rfl)) (fun _ _ _ h => h) (Or.inl ⟨by rfl, ?_⟩) ?_ ?_
                          rotate_left
                          · intro w'
                            go_simp
                            with_reducible rfl
                          rotate_left
                          · simp only [Act.put, List.setIfInBounds_toArray, List.set_cons_zero, List.set_cons_succ, i64_w, i32_w]
                            rfl
                          refine pure_ (i := 6) (N := some 39) (v := ?_) (a' := ?_) #[true, true, true, true, false, true, true, false, false, false, false] rfl rfl (any_of HT_.out (by kernel_rfl)) (fun _ _ _ h => h) (Or.inl ⟨by rfl, ?_⟩) ?_ ?_
                          rotate_left
                          · intro w'
                            go_simp
                            with_reducible rfl
                          rotate_left
                          · simp only [Act.put, List.setIfInBounds_toArray, List.set_cons_zero, List.set_cons_succ, i64_w, i32_w]
                            rfl
                          refine take_ (i := 4) (N := some 37) (v := ?_) (a' := ?_) #[true, true, true, true, true, true, true, false, false, false, false] rfl rfl (take_ofW HT_.out HW_.out (by kernel_rfl)) (fun _ _ _ h => h) (Or.inl ⟨by rfl, ?_⟩) hHeld ?_ ?_
                          rotate_left
                          · intro w' _
                            go_simp
                            with_reducible rfl
                          rotate_left
                          · simp only [Act.put, List.setIfInBounds_toArray, List.set_cons_zero, List.set_cons_succ, i64_w, i32_w]
                            rfl
                          refine take_ (i := 7) (N := some 40) (v := ?_) (a' := ?_) #[true, true, true, true, true, true, true, true, false, false, false] rfl rfl (take_ofW HT_.out HW_.out (by kernel_rfl)) (fun _ _ _ h => h) (Or.inl ⟨by rfl, ?_⟩) hHeld ?_ ?_
                          rotate_left
                          · intro w' _
                            go_simp
                            with_reducible rfl
                          rotate_left
                          · simp only [Act.put, List.setIfInBounds_toArray, List.set_cons_zero, List.set_cons_succ, i64_w, i32_w]
                            rfl
                          refine pure_ (i := 8) (N := some 41) (v := ?_) (a' := ?_) #[true, true, true, true, true, true, true, true, true, false, false] rfl rfl (any_of HT_.out (by kernel_rfl)) (fun _ _ _ h => h) (Or.inl ⟨by rfl, ?_⟩) ?_ ?_
                          rotate_left
                          · intro w'
                            go_simp
                            with_reducible rfl
                          rotate_left
                          · simp only [Act.put, List.setIfInBounds_toArray, List.set_cons_zero, List.set_cons_succ, i64_w, i32_w]
                            rfl
                          refine pure_ (i := 9) (N := some 42) (v := ?_) (a' := ?_) #[true, true, true, true, true, true, true, true, true, true, false] rfl rfl (any_of HT_.out (by kernel_rfl)) (fun _ _ _ h => h) (Or.inl ⟨by rfl, ?_⟩) ?_ ?_
                          rotate_left
                          · intro w'
                            go_simp
                            with_reducible rfl
                          rotate_left
                          · simp only [Act.put, List.setIfInBounds_toArray, List.set_cons_zero, List.set_cons_succ, i64_w, i32_w]
                            rfl
                          refine last_ (i := 10) (N := none) #[true, true, true, true, true, true, true, true, true, true, true] rfl rfl (one_of HT_.out (by kernel_rfl)) (by decide) (fun K hK => ?_)
                          refine skip_ (w1 := ?_) (by rfl) rfl ?_ ?_
                          rotate_left
                          · go_simp
                            rfl
                          refine hK.out _ _ ?_
                          clear hK K
                          refine done_ (done_of HT_.out (by kernel_rfl)) ?_
                          try go_wp2
                          (try simp only [← hl6_2])
                          go_roundg k2
                          case measure => have := HJ2.out; have := HK2.out; omega
                          case rel => exact ⟨(y112), (wrap64 (x30_2 + 1)), (by first | rfl | (simp; done) | (simp [*]; done)), H', ⟨by have := HJ2.out; have := HK2.out; omega⟩, ⟨by (try simp only [hl6_2]); (with_reducible repeat (first | apply Kd.R_alloc | apply Kd.R_drewN | apply Kd.R_drew)); exact HQ28.out⟩, ⟨by repeat (first | (with_reducible first | exact HB.out | apply below_alloc | apply pw_below_drewN | apply below_drew1 | refine below_set ?_ GB26.out) | exact HB.out)⟩⟩
                        · rw [if_neg c25] at H
                          exact absurd H (by simp)
                      · rw [if_neg c23] at H
                        exact absurd H (by simp)
                    · rw [if_neg c21] at H
                      exact absurd H (by simp)
                  · rw [if_neg c20] at H
                    exact absurd H (by simp)
                · rw [if_neg c19] at H
                  have c19b0 : decide (x30_2 < (y109.length : Int)) = false := decide_eq_false c19
                  (try simp only [hl6_2] at c19b0)
                  clear c19
                  replace H := Option.bind_eq_some_iff.mp H
                  obtain ⟨t113, A290, H⟩ := H
                  replace H : (if 0 ≤ ji13 then (if ji13 ≤ (a0.size : Int) then (if (a0.extract 0 (ji13 : Int).toNat).size ≤ 9223372036854775807 then ((sum_Of.f (bytesOf (a0.extract 0 (ji13 : Int).toNat))).bind fun t117 => (if ji13 ≤ (a1.size : Int) then (if (a1.extract 0 (ji13 : Int).toNat).size ≤ 9223372036854775807 then ((sum_Of.f (bytesOf (a1.extract 0 (ji13 : Int).toNat))).bind fun t121 => (if (ji13 : Int).toNat ≤ 281474976710656 then ((sum_Of.f (List.replicate (ji13 : Int).toNat 0)).bind fun t125 => (some (t113 == (Go.bits .xor .u32 (Go.bits .xor .u32 t117 t121) t125)))) else (none))) else (none)) else (none))) else (none)) else (none)) else (none)) = some r := H
                  have A29 := Aside0.mk A290
                  clear A290
                  by_cases c30 : 0 ≤ ji13
                  · rw [if_pos c30] at H
                    have c30b0 := eq_true c30
                    have c30b1 : decide (0 ≤ ji13) = true := decide_eq_true c30
                    clear c30
                    by_cases c31 : ji13 ≤ (a0.size : Int)
                    · rw [if_pos c31] at H
                      have c31b0 := eq_true c31
                      have c31b1 : decide (ji13 ≤ (a0.size : Int)) = true := decide_eq_true c31
                      clear c31
                      by_cases c32 : (a0.extract 0 (ji13 : Int).toNat).size ≤ 9223372036854775807
                      · rw [if_pos c32] at H
                        have c32b0 := eq_true c32
                        have c32b1 : decide ((a0.extract 0 (ji13 : Int).toNat).size ≤ 9223372036854775807) = true := decide_eq_true c32
                        try have c32b2 : (9223372036854775807 < (a0.extract 0 (ji13 : Int).toNat).size) = False := eq_false (Nat.not_lt.2 c32)
                        clear c32
                        obtain ⟨y114, hy114⟩ : ∃ y_ : List Int, y_ = (bytesOf (a0.extract 0 (ji13 : Int).toNat)) := ⟨_, rfl⟩
                        replace H : ((sum_Of.f y114).bind fun t117 => (if ji13 ≤ (a1.size : Int) then (if (a1.extract 0 (ji13 : Int).toNat).size ≤ 9223372036854775807 then ((sum_Of.f (bytesOf (a1.extract 0 (ji13 : Int).toNat))).bind fun t121 => (if (ji13 : Int).toNat ≤ 281474976710656 then ((sum_Of.f (List.replicate (ji13 : Int).toNat 0)).bind fun t125 => (some (t113 == (Go.bits .xor .u32 (Go.bits .xor .u32 t117 t121) t125)))) else (none))) else (none)) else (none))) = some r := by first | (rw [hy114]; with_reducible exact H) | (have H2_ := (Option.bind_some _ _).symm.trans H; rw [hy114]; with_reducible exact H2_) | (have H2_ := (Option.bind_some _ _).symm.trans H; with_reducible exact H2_) | with_reducible exact H | (rw [hy114]; exact H) | exact H
                        have Ny114 := Aside0.mk hy114
                        clear hy114
                        replace H := Option.bind_eq_some_iff.mp H
                        obtain ⟨t117, A330, H⟩ := H
                        replace H : (if ji13 ≤ (a1.size : Int) then (if (a1.extract 0 (ji13 : Int).toNat).size ≤ 9223372036854775807 then ((sum_Of.f (bytesOf (a1.extract 0 (ji13 : Int).toNat))).bind fun t121 => (if (ji13 : Int).toNat ≤ 281474976710656 then ((sum_Of.f (List.replicate (ji13 : Int).toNat 0)).bind fun t125 => (some (t113 == (Go.bits .xor .u32 (Go.bits .xor .u32 t117 t121) t125)))) else (none))) else (none)) else (none)) = some r := H
                        have A33 := Aside0.mk A330
                        clear A330
                        have c34b0 := eq_true (of_decide_eq_true (by first | (with_reducible assumption) | assumption) : 0 ≤ ji13)
                        by_cases c35 : ji13 ≤ (a1.size : Int)
                        · rw [if_pos c35] at H
                          have c35b0 := eq_true c35
                          have c35b1 : decide (ji13 ≤ (a1.size : Int)) = true := decide_eq_true c35
                          clear c35
                          by_cases c36 : (a1.extract 0 (ji13 : Int).toNat).size ≤ 9223372036854775807
                          · rw [if_pos c36] at H
                            have c36b0 := eq_true c36
                            have c36b1 : decide ((a1.extract 0 (ji13 : Int).toNat).size ≤ 9223372036854775807) = true := decide_eq_true c36
                            try have c36b2 : (9223372036854775807 < (a1.extract 0 (ji13 : Int).toNat).size) = False := eq_false (Nat.not_lt.2 c36)
                            clear c36
                            obtain ⟨y118, hy118⟩ : ∃ y_ : List Int, y_ = (bytesOf (a1.extract 0 (ji13 : Int).toNat)) := ⟨_, rfl⟩
                            replace H : ((sum_Of.f y118).bind fun t121 => (if (ji13 : Int).toNat ≤ 281474976710656 then ((sum_Of.f (List.replicate (ji13 : Int).toNat 0)).bind fun t125 => (some (t113 == (Go.bits .xor .u32 (Go.bits .xor .u32 t117 t121) t125)))) else (none))) = some r := by first | (rw [hy118]; with_reducible exact H) | (have H2_ := (Option.bind_some _ _).symm.trans H; rw [hy118]; with_reducible exact H2_) | (have H2_ := (Option.bind_some _ _).symm.trans H; with_reducible exact H2_) | with_reducible exact H | (rw [hy118]; exact H) | exact H
                            have Ny118 := Aside0.mk hy118
                            clear hy118
                            replace H := Option.bind_eq_some_iff.mp H
                            obtain ⟨t121, A370, H⟩ := H
                            replace H : (if (ji13 : Int).toNat ≤ 281474976710656 then ((sum_Of.f (List.replicate (ji13 : Int).toNat 0)).bind fun t125 => (some (t113 == (Go.bits .xor .u32 (Go.bits .xor .u32 t117 t121) t125)))) else (none)) = some r := H
                            have A37 := Aside0.mk A370
                            clear A370
                            by_cases c38 : (ji13 : Int).toNat ≤ 281474976710656
                            · rw [if_pos c38] at H
                              have c38b0 := eq_true c38
                              have c38b1 : decide ((ji13 : Int).toNat ≤ 281474976710656) = true := decide_eq_true c38
                              clear c38
                              obtain ⟨y122, hy122⟩ : ∃ y_ : List Int, y_ = (List.replicate (ji13 : Int).toNat 0) := ⟨_, rfl⟩
                              replace H : ((sum_Of.f y122).bind fun t125 => (some (t113 == (Go.bits .xor .u32 (Go.bits .xor .u32 t117 t121) t125)))) = some r := by first | (rw [hy122]; with_reducible exact H) | (have H2_ := (Option.bind_some _ _).symm.trans H; rw [hy122]; with_reducible exact H2_) | (have H2_ := (Option.bind_some _ _).symm.trans H; with_reducible exact H2_) | with_reducible exact H | (rw [hy122]; exact H) | exact H
                              have Ny122 := Aside0.mk hy122
                              clear hy122
                              replace H := Option.bind_eq_some_iff.mp H
                              obtain ⟨t125, A390, H⟩ := H
                              replace H : (some (t113 == (Go.bits .xor .u32 (Go.bits .xor .u32 t117 t121) t125))) = some r := H
                              have A39 := Aside0.mk A390
                              clear A390
                              obtain rfl := Option.some.inj H
                              try go_wp2
                              have n0_ := Aside0.mk (Kd.R_drew HO_6.out)
                              have n1_ := Aside0.mk (below_drew1 HB.out)
                              clear HO_6
                              clear HB
                              have HO_6 := n0_
                              have HB := n1_
                              clear n0_ n1_
                              refine start_ (n := 19) (S := fun w' => True) (ds := []) #[false, false, false, false, false, false, false, false, false, false, false, false, false, false, false, false, false, false, false] (by kernel_rfl) rfl rfl trivial (fun hHeld => ?_); refine with_tabW sumLinear0.tab10 sumLinear0.bits10 (fun HT_ HW_ => ?_)
                              generalize wr.drew = w40 at HO_6 HB hHeld ⊢
                              refine pure_ (i := 0) (N := some 44) (v := ?_) (a' := ?_) #[true, false, false, false, false, false, false, false, false, false, false, false, false, false, false, false, false, false, false] rfl rfl (any_of HT_.out (by kernel_rfl)) (fun _ _ _ h => h) (Or.inl ⟨by rfl, ?_⟩) ?_ ?_
                              rotate_left
                              · intro w'
                                go_simp
                                with_reducible rfl
                              rotate_left
                              · simp only [Act.put, List.setIfInBounds_toArray, List.set_cons_zero, List.set_cons_succ, i64_w, i32_w]
                                rfl
                              refine pure_ (i := 2) (N := some 46) (v := ?_) (a' := ?_) #[true, false, true, false, false, false, false, false, false, false, false, false, false, false, false, false, false, false, false] rfl rfl (any_of HT_.out (by kernel_rfl)) (fun _ _ _ h => h) (Or.inl ⟨by rfl, ?_⟩) ?_ ?_
                              rotate_left
                              · intro w'
                                go_simp
                                with_reducible rfl
                              rotate_left
                              · simp only [Act.put, List.setIfInBounds_toArray, List.set_cons_zero, List.set_cons_succ, i64_w, i32_w]
                                rfl
                              refine pure_ (i := 3) (N := some 47) (v := ?_) (a' := ?_) #[true, false, true, true, false, false, false, false, false, false, false, false, false, false, false, false, false, false, false] rfl rfl (any_of HT_.out (by kernel_rfl)) (fun _ _ _ h => h) (Or.inl ⟨by rfl, ?_⟩) ?_ ?_
                              rotate_left
                              · intro w'
                                go_simp
                                with_reducible rfl
                              rotate_left
                              · simp only [Act.put, List.setIfInBounds_toArray, List.set_cons_zero, List.set_cons_succ, i64_w, i32_w]
                                rfl
                              refine pure_ (i := 7) (N := some 51) (v := ?_) (a' := ?_) #[true, false, true, true, false, false, false, true, false, false, false, false, false, false, false, false, false, false, false] rfl rfl (any_of HT_.out (by kernel_rfl)) (fun _ _ _ h => h) (Or.inl ⟨by rfl, ?_⟩) ?_ ?_
                              rotate_left
                              · intro w'
                                go_simp
                                with_reducible rfl
                              rotate_left
                              · simp only [Act.put, List.setIfInBounds_toArray, List.set_cons_zero, List.set_cons_succ, i64_w, i32_w]
                                rfl
                              refine pure_ (i := 8) (N := some 52) (v := ?_) (a' := ?_) #[true, false, true, true, false, false, false, true, true, false, false, false, false, false, false, false, false, false, false] rfl rfl (any_of HT_.out (by kernel_rfl)) (fun _ _ _ h => h) (Or.inl ⟨by rfl, ?_⟩) ?_ ?_
                              rotate_left
                              · intro w'
                                go_simp
                                with_reducible rfl
                              rotate_left
                              · simp only [Act.put, List.setIfInBounds_toArray, List.set_cons_zero, List.set_cons_succ, i64_w, i32_w]
                                rfl
                              refine pure_ (i := 13) (N := some 57) (v := ?_) (a' := ?_) #[true, false, true, true, false, false, false, true, true, false, false, false, false, true, false, false, false, false, false] rfl rfl (any_of HT_.out (by kernel_rfl)) (fun _ _ _ h => h) (Or.inl ⟨by rfl, ?_⟩) ?_ ?_
                              rotate_left
                              · intro w'
                                go_simp
                                with_reducible rfl
                              rotate_left
                              · simp only [Act.put, List.setIfInBounds_toArray, List.set_cons_zero, List.set_cons_succ, i64_w, i32_w]
                                rfl
                              refine inv_at [1, 4, 5, 6, 9, 10, 11, 12, 14, 15, 16, 17, 18] (fun a0_ b a w' => ∃ (v115 : Value) (v119 : Value) (v123 : Value), a = putSel a0_ b [(1, 45, .int .u32 t113), (4, 48, .string (a0.extract 0 (ji13 : Int).toNat)), (5, 49, v115), (6, 50, .int .u32 t117), (9, 53, .string (a1.extract 0 (ji13 : Int).toNat)), (10, 54, v119), (11, 55, .int .u32 t121), (12, 56, .int .u32 (Go.bits .xor .u32 t117 t121)), (14, 58, v123), (15, 59, .int .u32 t125), (16, 60, .int .u32 (Go.bits .xor .u32 (Go.bits .xor .u32 t117 t121) t125)), (17, 61, .bool (t113 == (Go.bits .xor .u32 (Go.bits .xor .u32 t117 t121) t125))), (18, 4, .bool (t113 == (Go.bits .xor .u32 (Go.bits .xor .u32 t117 t121) t125)))] ∧ (Kd.R (Kd.int .u8) 5 w' w.heap.size (fun _ => True) (.slice Ao18 x6_2.length co18) x6_2) ∧ (Below w.heap.size w w') ∧ (b 5 = true → Kd.V (Kd.int .u8) 5 w' w.heap.size (fun k_ => some k_ ≠ (.slice Ao18 x6_2.length co18 : Value).ownBlock) v115 y114) ∧ (b 10 = true → Kd.V (Kd.int .u8) 5 w' w.heap.size (fun k_ => some k_ ≠ (.slice Ao18 x6_2.length co18 : Value).ownBlock) v119 y118) ∧ (b 14 = true → Kd.R (Kd.int .u8) 5 w' w.heap.size (fun k_ => some k_ ≠ (.slice Ao18 x6_2.length co18 : Value).ownBlock) v123 y122)) HT_.out HW_.out (by kernel_rfl) (by kernel_rfl) ?_ ?_ ?_
                              · exact ⟨.bool false, .bool false, .bool false, by simp only [putSel, Bool.false_eq_true, if_false], HO_6.out, HB.out, fun h_ => absurd h_ (by decide), fun h_ => absurd h_ (by decide), fun h_ => absurd h_ (by decide)⟩
                              · skip
                                clear HB HO_6
                                refine steps_cons ?_ ?_
                                · rintro b a w' ⟨v115, v119, v123, ha, Q_HO_6, Q_HB, Q_HO116, Q_HO120, Q_HO124⟩ hb_ hon hoff
                                  refine ⟨_, rfl, fun K hK => ?_⟩
                                  have e44 : a.tmps[44]? = some (.slice Ao18 x6_2.length co18) := by rw [ha]; exact (putSel_off rfl).trans rfl
                                  replace ha := Aside0.mk ha
                                  have HO_6 := Aside0.mk Q_HO_6
                                  have HB := Aside0.mk Q_HB
                                  refine goes_ Try.func10 (by kernel_rfl) rfl #[.slice Ao18 x6_2.length co18] (by rfl) rfl rfl (by first | (simp only [List.map_toArray, List.map_cons, List.map_nil, Act.eval, Array.getD_eq_getD_getElem?, Option.getD_some, e44]; done) | (simp only [List.map_toArray, List.map_cons, List.map_nil, Act.eval, Array.getD_eq_getD_getElem?, Option.getD_some, e44]; rfl)) ?_
                                  with_reducible refine (sum_Of.calls _ _ x6_2 t113 _ ?side1 ?side2 A29.out).mono ?_
                                  (case side1 => repeat (first | exact (Kd.R_reads' HO_6.out).2.2 | (with_reducible refine Kd.C_alloc ?_ _) | (with_reducible refine Kd.C_drewN ?_ _) | (with_reducible refine Kd.C_drew ?_)))
                                  (case side2 => exact (Kd.R_reads' HO_6.out).2.1)
                                  rintro e w41 ⟨rfl, hb⟩
                                  refine ⟨_, rfl, ?_⟩
                                  have n0_ := Aside0.mk (Kd.R_below (by (with_reducible repeat (first | apply Kd.R_alloc | apply Kd.R_drewN | apply Kd.R_drew)); exact HO_6.out) hb)
                                  have n1_ := Aside0.mk (below_step (by repeat (first | (with_reducible first | exact HB.out | apply below_alloc | apply pw_below_drewN | apply below_drew1) | exact HB.out)) hb)
                                  have z_HO116 := fun (h0_ : b 5 = true) => (show Kd.V (Kd.int .u8) 5 w41 w.heap.size (fun k_ => some k_ ≠ (.slice Ao18 x6_2.length co18 : Value).ownBlock) v115 y114 from by first | exact (Kd.V_below (by (with_reducible repeat (first | apply Kd.V_alloc | apply Kd.V_drewN | apply Kd.V_drew)); exact (Q_HO116 h0_)) hb) | exact Kd.V_mono (Kd.V_below (by (with_reducible repeat (first | apply Kd.V_alloc | apply Kd.V_drewN | apply Kd.V_drew)); exact (Q_HO116 h0_)) hb) (fun _ h_ => by first | trivial | exact h_ | exact h_.1))
                                  have z_HO120 := fun (h0_ : b 10 = true) => (show Kd.V (Kd.int .u8) 5 w41 w.heap.size (fun k_ => some k_ ≠ (.slice Ao18 x6_2.length co18 : Value).ownBlock) v119 y118 from by first | exact (Kd.V_below (by (with_reducible repeat (first | apply Kd.V_alloc | apply Kd.V_drewN | apply Kd.V_drew)); exact (Q_HO120 h0_)) hb) | exact Kd.V_mono (Kd.V_below (by (with_reducible repeat (first | apply Kd.V_alloc | apply Kd.V_drewN | apply Kd.V_drew)); exact (Q_HO120 h0_)) hb) (fun _ h_ => by first | trivial | exact h_ | exact h_.1))
                                  have z_HO124 := fun (h0_ : b 14 = true) => (show Kd.R (Kd.int .u8) 5 w41 w.heap.size (fun k_ => some k_ ≠ (.slice Ao18 x6_2.length co18 : Value).ownBlock) v123 y122 from by first | exact (Kd.R_below (by (with_reducible repeat (first | apply Kd.R_alloc | apply Kd.R_drewN | apply Kd.R_drew)); exact (Q_HO124 h0_)) hb) | exact Kd.R_mono (Kd.R_below (by (with_reducible repeat (first | apply Kd.R_alloc | apply Kd.R_drewN | apply Kd.R_drew)); exact (Q_HO124 h0_)) hb) (fun _ h_ => by first | trivial | exact h_ | exact h_.1))
                                  clear HO_6
                                  clear HB
                                  have HO_6 := n0_
                                  have HB := n1_
                                  clear n0_ n1_
                                  (try clear hb)
                                  (try clear hb2)
                                  (try clear hk)
                                  (try clear hi)
                                  refine hK.out _ _ ⟨v115, v119, v123, (by rw [ha.out]; exact putSel_upk 0 hb_ rfl rfl rfl), (by (with_reducible repeat (first | apply Kd.R_alloc | apply Kd.R_drewN | apply Kd.R_drew)); exact HO_6.out), (by repeat (first | (with_reducible first | exact HB.out | apply below_alloc | apply pw_below_drewN | apply below_drew1) | exact HB.out)), z_HO116, z_HO120, z_HO124⟩
                                refine steps_cons ?_ ?_
                                · rintro b a w' ⟨v115, v119, v123, ha, Q_HO_6, Q_HB, Q_HO116, Q_HO120, Q_HO124⟩ hb_ hon hoff
                                  refine ⟨_, rfl, fun K hK => ?_⟩
                                  have e46 : a.tmps[46]? = some (.string a0) := by rw [ha]; exact (putSel_off rfl).trans rfl
                                  have e47 : a.tmps[47]? = some (.int .i64 ji13) := by rw [ha]; exact (putSel_off rfl).trans rfl
                                  replace ha := Aside0.mk ha
                                  have HO_6 := Aside0.mk Q_HO_6
                                  have HB := Aside0.mk Q_HB
                                  refine value_ (w1 := w') (v := .string (a0.extract 0 (ji13 : Int).toNat)) (by rfl) rfl ?_ ?_
                                  · go_simp
                                    (try simp only [i64_w])
                                    try rfl
                                  refine hK.out _ _ ⟨v115, v119, v123, (by rw [ha.out]; exact putSel_upk 1 hb_ rfl rfl rfl), Q_HO_6, Q_HB, fun h0_ => absurd ((hoff 5 (by kernel_rfl)).symm.trans h0_) (by decide), Q_HO120, Q_HO124⟩
                                refine steps_cons ?_ ?_
                                · rintro b a w' ⟨v115, v119, v123, ha, Q_HO_6, Q_HB, Q_HO116, Q_HO120, Q_HO124⟩ hb_ hon hoff
                                  refine ⟨_, rfl, fun K hK => ?_⟩
                                  have e48 : a.tmps[48]? = some (.string (a0.extract 0 (ji13 : Int).toNat)) := by rw [ha]; exact putSel_on (e := (4, 48, .string (a0.extract 0 (ji13 : Int).toNat))) 1 rfl rfl (hon 4 (by kernel_rfl)) rfl
                                  replace ha := Aside0.mk ha
                                  have HO_6 := Aside0.mk Q_HO_6
                                  have HB := Aside0.mk Q_HB
                                  refine Hand.V_bytes_step _ 5 (by rfl) (N := 49) rfl 9 23 _ rfl (a0.extract 0 (ji13 : Int).toNat) (by first | rfl | (simp only [Act.eval, Array.getD_eq_getD_getElem?, Option.getD_some, e48])) Try.underlying9 Try.underlying23 Try.underlying5 (of_decide_eq_true (by first | (with_reducible assumption) | assumption)) (fun _ hk_ => hk_) (ok := fun k_ => w'.heap.size ≤ k_) (Below.refl _ _) (Nat.le_refl _) ?_
                                  intro v115 w41 ho42 hb hg_ hnew_
                                  clear hg_ hnew_
                                  (first | rw [← Ny114.out] at ho42 | (simp only [Int.reduceToNat] at ho42; rw [← Ny114.out] at ho42))
                                  have n0_ := Aside0.mk (Kd.R_below (by (with_reducible repeat (first | apply Kd.R_alloc | apply Kd.R_drewN | apply Kd.R_drew)); exact HO_6.out) hb)
                                  have n1_ := Aside0.mk (Kd.V_lower (Kd.V_mono (ok' := fun k_ => some k_ ≠ (.slice Ao18 x6_2.length co18 : Value).ownBlock) ho42 (fun k_ hk_ => (Kd.fresh' (Kd.R_lt (by (with_reducible repeat (first | apply Kd.R_alloc | apply Kd.R_drewN | apply Kd.R_drew)); exact HO_6.out)) k_ hk_))) (below_size (by repeat (first | (with_reducible first | exact HB.out | apply below_alloc | apply pw_below_drewN | apply below_drew1) | exact HB.out))))
                                  have n2_ := Aside0.mk (below_step (by repeat (first | (with_reducible first | exact HB.out | apply below_alloc | apply pw_below_drewN | apply below_drew1) | exact HB.out)) hb)
                                  have z_HO120 := fun (h0_ : b 10 = true) => (show Kd.V (Kd.int .u8) 5 w41 w.heap.size (fun k_ => some k_ ≠ (.slice Ao18 x6_2.length co18 : Value).ownBlock) v119 y118 from by first | exact (Kd.V_below (by (with_reducible repeat (first | apply Kd.V_alloc | apply Kd.V_drewN | apply Kd.V_drew)); exact (Q_HO120 h0_)) hb) | exact Kd.V_mono (Kd.V_below (by (with_reducible repeat (first | apply Kd.V_alloc | apply Kd.V_drewN | apply Kd.V_drew)); exact (Q_HO120 h0_)) hb) (fun _ h_ => by first | trivial | exact h_ | exact h_.1))
                                  have z_HO124 := fun (h0_ : b 14 = true) => (show Kd.R (Kd.int .u8) 5 w41 w.heap.size (fun k_ => some k_ ≠ (.slice Ao18 x6_2.length co18 : Value).ownBlock) v123 y122 from by first | exact (Kd.R_below (by (with_reducible repeat (first | apply Kd.R_alloc | apply Kd.R_drewN | apply Kd.R_drew)); exact (Q_HO124 h0_)) hb) | exact Kd.R_mono (Kd.R_below (by (with_reducible repeat (first | apply Kd.R_alloc | apply Kd.R_drewN | apply Kd.R_drew)); exact (Q_HO124 h0_)) hb) (fun _ h_ => by first | trivial | exact h_ | exact h_.1))
                                  clear HO_6
                                  clear HB
                                  have HO_6 := n0_
                                  have HO116 := n1_
                                  have HB := n2_
                                  clear n0_ n1_ n2_
                                  clear hb ho42
                                  refine hK.out _ _ ⟨v115, v119, v123, (by rw [ha.out]; exact putSel_upk 2 hb_ rfl rfl rfl), (by (with_reducible repeat (first | apply Kd.R_alloc | apply Kd.R_drewN | apply Kd.R_drew)); exact HO_6.out), (by repeat (first | (with_reducible first | exact HB.out | apply below_alloc | apply pw_below_drewN | apply below_drew1) | exact HB.out)), fun _ => (by (with_reducible repeat (first | apply Kd.V_alloc | apply Kd.V_drewN | apply Kd.V_drew)); exact HO116.out), z_HO120, z_HO124⟩
                                refine steps_cons ?_ ?_
                                · rintro b a w' ⟨v115, v119, v123, ha, Q_HO_6, Q_HB, Q_HO116, Q_HO120, Q_HO124⟩ hb_ hon hoff
                                  refine ⟨_, rfl, fun K hK => ?_⟩
                                  have e49 : a.tmps[49]? = some (v115) := by rw [ha]; exact putSel_on (e := (5, 49, v115)) 2 rfl rfl (hon 5 (by kernel_rfl)) rfl
                                  replace ha := Aside0.mk ha
                                  have HO_6 := Aside0.mk Q_HO_6
                                  have HB := Aside0.mk Q_HB
                                  have HO116 := Aside0.mk (Q_HO116 (hon 5 (by kernel_rfl)))
                                  obtain ⟨Ao45, co45, eo45⟩ := Kd.V_slice HO116.out
                                  (first | subst eo45 | (injection eo45 with f1_ f2_ f3_; have f4_ := f1_.symm; have f5_ := f3_.symm; clear f1_ f2_ f3_; subst f4_; subst f5_))
                                  refine goes_ Try.func10 (by kernel_rfl) rfl #[.slice Ao45 y114.length co45] (by rfl) rfl rfl (by first | (simp only [List.map_toArray, List.map_cons, List.map_nil, Act.eval, Array.getD_eq_getD_getElem?, Option.getD_some, e49]; done) | (simp only [List.map_toArray, List.map_cons, List.map_nil, Act.eval, Array.getD_eq_getD_getElem?, Option.getD_some, e49]; rfl)) ?_
                                  with_reducible refine (sum_Of.calls _ _ y114 t117 _ ?side1 ?side2 A33.out).mono ?_
                                  (case side1 => repeat (first | exact (Kd.V_reads' HO116.out).2.2 | (with_reducible refine Kd.C_alloc ?_ _) | (with_reducible refine Kd.C_drewN ?_ _) | (with_reducible refine Kd.C_drew ?_)))
                                  (case side2 => exact (Kd.V_reads' HO116.out).2.1)
                                  rintro e w46 ⟨rfl, hb⟩
                                  refine ⟨_, rfl, ?_⟩
                                  have n0_ := Aside0.mk (Kd.R_below (by (with_reducible repeat (first | apply Kd.R_alloc | apply Kd.R_drewN | apply Kd.R_drew)); exact HO_6.out) hb)
                                  have n1_ := Aside0.mk (Kd.V_below (by (with_reducible repeat (first | apply Kd.V_alloc | apply Kd.V_drewN | apply Kd.V_drew)); exact HO116.out) hb)
                                  have n2_ := Aside0.mk (below_step (by repeat (first | (with_reducible first | exact HB.out | apply below_alloc | apply pw_below_drewN | apply below_drew1) | exact HB.out)) hb)
                                  have z_HO120 := fun (h0_ : b 10 = true) => (show Kd.V (Kd.int .u8) 5 w46 w.heap.size (fun k_ => some k_ ≠ (.slice Ao18 x6_2.length co18 : Value).ownBlock) v119 y118 from by first | exact (Kd.V_below (by (with_reducible repeat (first | apply Kd.V_alloc | apply Kd.V_drewN | apply Kd.V_drew)); exact (Q_HO120 h0_)) hb) | exact Kd.V_mono (Kd.V_below (by (with_reducible repeat (first | apply Kd.V_alloc | apply Kd.V_drewN | apply Kd.V_drew)); exact (Q_HO120 h0_)) hb) (fun _ h_ => by first | trivial | exact h_ | exact h_.1))
                                  have z_HO124 := fun (h0_ : b 14 = true) => (show Kd.R (Kd.int .u8) 5 w46 w.heap.size (fun k_ => some k_ ≠ (.slice Ao18 x6_2.length co18 : Value).ownBlock) v123 y122 from by first | exact (Kd.R_below (by (with_reducible repeat (first | apply Kd.R_alloc | apply Kd.R_drewN | apply Kd.R_drew)); exact (Q_HO124 h0_)) hb) | exact Kd.R_mono (Kd.R_below (by (with_reducible repeat (first | apply Kd.R_alloc | apply Kd.R_drewN | apply Kd.R_drew)); exact (Q_HO124 h0_)) hb) (fun _ h_ => by first | trivial | exact h_ | exact h_.1))
                                  clear HO_6
                                  clear HO116
                                  clear HB
                                  have HO_6 := n0_
                                  have HO116 := n1_
                                  have HB := n2_
                                  clear n0_ n1_ n2_
                                  (try clear hb)
                                  (try clear hb2)
                                  (try clear hk)
                                  (try clear hi)
                                  refine hK.out _ _ ⟨.slice Ao45 y114.length co45, v119, v123, (by rw [ha.out]; exact putSel_upk 3 hb_ rfl rfl rfl), (by (with_reducible repeat (first | apply Kd.R_alloc | apply Kd.R_drewN | apply Kd.R_drew)); exact HO_6.out), (by repeat (first | (with_reducible first | exact HB.out | apply below_alloc | apply pw_below_drewN | apply below_drew1) | exact HB.out)), fun _ => (by (with_reducible repeat (first | apply Kd.V_alloc | apply Kd.V_drewN | apply Kd.V_drew)); exact HO116.out), z_HO120, z_HO124⟩
                                refine steps_cons ?_ ?_
                                · rintro b a w' ⟨v115, v119, v123, ha, Q_HO_6, Q_HB, Q_HO116, Q_HO120, Q_HO124⟩ hb_ hon hoff
                                  refine ⟨_, rfl, fun K hK => ?_⟩
                                  have e51 : a.tmps[51]? = some (.string a1) := by rw [ha]; exact (putSel_off rfl).trans rfl
                                  have e52 : a.tmps[52]? = some (.int .i64 ji13) := by rw [ha]; exact (putSel_off rfl).trans rfl
                                  replace ha := Aside0.mk ha
                                  have HO_6 := Aside0.mk Q_HO_6
                                  have HB := Aside0.mk Q_HB
                                  refine value_ (w1 := w') (v := .string (a1.extract 0 (ji13 : Int).toNat)) (by rfl) rfl ?_ ?_
                                  · go_simp
                                    (try simp only [i64_w])
                                    try rfl
                                  refine hK.out _ _ ⟨v115, v119, v123, (by rw [ha.out]; exact putSel_upk 4 hb_ rfl rfl rfl), Q_HO_6, Q_HB, Q_HO116, fun h0_ => absurd ((hoff 10 (by kernel_rfl)).symm.trans h0_) (by decide), Q_HO124⟩
                                refine steps_cons ?_ ?_
                                · rintro b a w' ⟨v115, v119, v123, ha, Q_HO_6, Q_HB, Q_HO116, Q_HO120, Q_HO124⟩ hb_ hon hoff
                                  refine ⟨_, rfl, fun K hK => ?_⟩
                                  have e53 : a.tmps[53]? = some (.string (a1.extract 0 (ji13 : Int).toNat)) := by rw [ha]; exact putSel_on (e := (9, 53, .string (a1.extract 0 (ji13 : Int).toNat))) 4 rfl rfl (hon 9 (by kernel_rfl)) rfl
                                  replace ha := Aside0.mk ha
                                  have HO_6 := Aside0.mk Q_HO_6
                                  have HB := Aside0.mk Q_HB
                                  refine Hand.V_bytes_step _ 5 (by rfl) (N := 54) rfl 9 23 _ rfl (a1.extract 0 (ji13 : Int).toNat) (by first | rfl | (simp only [Act.eval, Array.getD_eq_getD_getElem?, Option.getD_some, e53])) Try.underlying9 Try.underlying23 Try.underlying5 (of_decide_eq_true (by first | (with_reducible assumption) | assumption)) (fun _ hk_ => hk_) (ok := fun k_ => w'.heap.size ≤ k_) (Below.refl _ _) (Nat.le_refl _) ?_
                                  intro v119 w41 ho42 hb hg_ hnew_
                                  clear hg_ hnew_
                                  (first | rw [← Ny118.out] at ho42 | (simp only [Int.reduceToNat] at ho42; rw [← Ny118.out] at ho42))
                                  have n0_ := Aside0.mk (Kd.R_below (by (with_reducible repeat (first | apply Kd.R_alloc | apply Kd.R_drewN | apply Kd.R_drew)); exact HO_6.out) hb)
                                  have n1_ := Aside0.mk (Kd.V_lower (Kd.V_mono (ok' := fun k_ => some k_ ≠ (.slice Ao18 x6_2.length co18 : Value).ownBlock) ho42 (fun k_ hk_ => (Kd.fresh' (Kd.R_lt (by (with_reducible repeat (first | apply Kd.R_alloc | apply Kd.R_drewN | apply Kd.R_drew)); exact HO_6.out)) k_ hk_))) (below_size (by repeat (first | (with_reducible first | exact HB.out | apply below_alloc | apply pw_below_drewN | apply below_drew1) | exact HB.out))))
                                  have n2_ := Aside0.mk (below_step (by repeat (first | (with_reducible first | exact HB.out | apply below_alloc | apply pw_below_drewN | apply below_drew1) | exact HB.out)) hb)
                                  have z_HO116 := fun (h0_ : b 5 = true) => (show Kd.V (Kd.int .u8) 5 w41 w.heap.size (fun k_ => some k_ ≠ (.slice Ao18 x6_2.length co18 : Value).ownBlock) v115 y114 from by first | exact (Kd.V_below (by (with_reducible repeat (first | apply Kd.V_alloc | apply Kd.V_drewN | apply Kd.V_drew)); exact (Q_HO116 h0_)) hb) | exact Kd.V_mono (Kd.V_below (by (with_reducible repeat (first | apply Kd.V_alloc | apply Kd.V_drewN | apply Kd.V_drew)); exact (Q_HO116 h0_)) hb) (fun _ h_ => by first | trivial | exact h_ | exact h_.1))
                                  have z_HO124 := fun (h0_ : b 14 = true) => (show Kd.R (Kd.int .u8) 5 w41 w.heap.size (fun k_ => some k_ ≠ (.slice Ao18 x6_2.length co18 : Value).ownBlock) v123 y122 from by first | exact (Kd.R_below (by (with_reducible repeat (first | apply Kd.R_alloc | apply Kd.R_drewN | apply Kd.R_drew)); exact (Q_HO124 h0_)) hb) | exact Kd.R_mono (Kd.R_below (by (with_reducible repeat (first | apply Kd.R_alloc | apply Kd.R_drewN | apply Kd.R_drew)); exact (Q_HO124 h0_)) hb) (fun _ h_ => by first | trivial | exact h_ | exact h_.1))
                                  clear HO_6
                                  clear HB
                                  have HO_6 := n0_
                                  have HO120 := n1_
                                  have HB := n2_
                                  clear n0_ n1_ n2_
                                  clear hb ho42
                                  refine hK.out _ _ ⟨v115, v119, v123, (by rw [ha.out]; exact putSel_upk 5 hb_ rfl rfl rfl), (by (with_reducible repeat (first | apply Kd.R_alloc | apply Kd.R_drewN | apply Kd.R_drew)); exact HO_6.out), (by repeat (first | (with_reducible first | exact HB.out | apply below_alloc | apply pw_below_drewN | apply below_drew1) | exact HB.out)), z_HO116, fun _ => (by (with_reducible repeat (first | apply Kd.V_alloc | apply Kd.V_drewN | apply Kd.V_drew)); exact HO120.out), z_HO124⟩
                                refine steps_cons ?_ ?_
                                · rintro b a w' ⟨v115, v119, v123, ha, Q_HO_6, Q_HB, Q_HO116, Q_HO120, Q_HO124⟩ hb_ hon hoff
                                  refine ⟨_, rfl, fun K hK => ?_⟩
                                  have e54 : a.tmps[54]? = some (v119) := by rw [ha]; exact putSel_on (e := (10, 54, v119)) 5 rfl rfl (hon 10 (by kernel_rfl)) rfl
                                  replace ha := Aside0.mk ha
                                  have HO_6 := Aside0.mk Q_HO_6
                                  have HB := Aside0.mk Q_HB
                                  have HO116 := Aside0.mk (Q_HO116 (hon 5 (by kernel_rfl)))
                                  have HO120 := Aside0.mk (Q_HO120 (hon 10 (by kernel_rfl)))
                                  obtain ⟨Ao49, co49, eo49⟩ := Kd.V_slice HO120.out
                                  (first | subst eo49 | (injection eo49 with f1_ f2_ f3_; have f4_ := f1_.symm; have f5_ := f3_.symm; clear f1_ f2_ f3_; subst f4_; subst f5_))
                                  refine goes_ Try.func10 (by kernel_rfl) rfl #[.slice Ao49 y118.length co49] (by rfl) rfl rfl (by first | (simp only [List.map_toArray, List.map_cons, List.map_nil, Act.eval, Array.getD_eq_getD_getElem?, Option.getD_some, e54]; done) | (simp only [List.map_toArray, List.map_cons, List.map_nil, Act.eval, Array.getD_eq_getD_getElem?, Option.getD_some, e54]; rfl)) ?_
                                  with_reducible refine (sum_Of.calls _ _ y118 t121 _ ?side1 ?side2 A37.out).mono ?_
                                  (case side1 => repeat (first | exact (Kd.V_reads' HO120.out).2.2 | (with_reducible refine Kd.C_alloc ?_ _) | (with_reducible refine Kd.C_drewN ?_ _) | (with_reducible refine Kd.C_drew ?_)))
                                  (case side2 => exact (Kd.V_reads' HO120.out).2.1)
                                  rintro e w50 ⟨rfl, hb⟩
                                  refine ⟨_, rfl, ?_⟩
                                  have n0_ := Aside0.mk (Kd.R_below (by (with_reducible repeat (first | apply Kd.R_alloc | apply Kd.R_drewN | apply Kd.R_drew)); exact HO_6.out) hb)
                                  have n1_ := Aside0.mk (Kd.V_below (by (with_reducible repeat (first | apply Kd.V_alloc | apply Kd.V_drewN | apply Kd.V_drew)); exact HO116.out) hb)
                                  have n2_ := Aside0.mk (Kd.V_below (by (with_reducible repeat (first | apply Kd.V_alloc | apply Kd.V_drewN | apply Kd.V_drew)); exact HO120.out) hb)
                                  have n3_ := Aside0.mk (below_step (by repeat (first | (with_reducible first | exact HB.out | apply below_alloc | apply pw_below_drewN | apply below_drew1) | exact HB.out)) hb)
                                  have z_HO124 := fun (h0_ : b 14 = true) => (show Kd.R (Kd.int .u8) 5 w50 w.heap.size (fun k_ => some k_ ≠ (.slice Ao18 x6_2.length co18 : Value).ownBlock) v123 y122 from by first | exact (Kd.R_below (by (with_reducible repeat (first | apply Kd.R_alloc | apply Kd.R_drewN | apply Kd.R_drew)); exact (Q_HO124 h0_)) hb) | exact Kd.R_mono (Kd.R_below (by (with_reducible repeat (first | apply Kd.R_alloc | apply Kd.R_drewN | apply Kd.R_drew)); exact (Q_HO124 h0_)) hb) (fun _ h_ => by first | trivial | exact h_ | exact h_.1))
                                  clear HO_6
                                  clear HO116
                                  clear HO120
                                  clear HB
                                  have HO_6 := n0_
                                  have HO116 := n1_
                                  have HO120 := n2_
                                  have HB := n3_
                                  clear n0_ n1_ n2_ n3_
                                  (try clear hb)
                                  (try clear hb2)
                                  (try clear hk)
                                  (try clear hi)
                                  refine hK.out _ _ ⟨v115, .slice Ao49 y118.length co49, v123, (by rw [ha.out]; exact putSel_upk 6 hb_ rfl rfl rfl), (by (with_reducible repeat (first | apply Kd.R_alloc | apply Kd.R_drewN | apply Kd.R_drew)); exact HO_6.out), (by repeat (first | (with_reducible first | exact HB.out | apply below_alloc | apply pw_below_drewN | apply below_drew1) | exact HB.out)), fun _ => (by (with_reducible repeat (first | apply Kd.V_alloc | apply Kd.V_drewN | apply Kd.V_drew)); exact HO116.out), fun _ => (by (with_reducible repeat (first | apply Kd.V_alloc | apply Kd.V_drewN | apply Kd.V_drew)); exact HO120.out), z_HO124⟩
                                refine steps_cons ?_ ?_
                                · rintro b a w' ⟨v115, v119, v123, ha, Q_HO_6, Q_HB, Q_HO116, Q_HO120, Q_HO124⟩ hb_ hon hoff
                                  refine ⟨_, rfl, fun K hK => ?_⟩
                                  have e50 : a.tmps[50]? = some (.int .u32 t117) := by rw [ha]; exact putSel_on (e := (6, 50, .int .u32 t117)) 3 rfl rfl (hon 6 (by kernel_rfl)) rfl
                                  have e55 : a.tmps[55]? = some (.int .u32 t121) := by rw [ha]; exact putSel_on (e := (11, 55, .int .u32 t121)) 6 rfl rfl (hon 11 (by kernel_rfl)) rfl
                                  replace ha := Aside0.mk ha
                                  have HO_6 := Aside0.mk Q_HO_6
                                  have HB := Aside0.mk Q_HB
                                  have HO116 := Aside0.mk (Q_HO116 (hon 5 (by kernel_rfl)))
                                  have HO120 := Aside0.mk (Q_HO120 (hon 10 (by kernel_rfl)))
                                  refine value_ (w1 := w') (v := .int .u32 (Go.bits .xor .u32 t117 t121)) (by rfl) rfl ?_ ?_
                                  · go_simp
                                    (try simp only [i64_w])
                                    try rfl
                                  refine hK.out _ _ ⟨v115, v119, v123, (by rw [ha.out]; exact putSel_upk 7 hb_ rfl rfl rfl), Q_HO_6, Q_HB, Q_HO116, Q_HO120, Q_HO124⟩
                                refine steps_cons ?_ ?_
                                · rintro b a w' ⟨v115, v119, v123, ha, Q_HO_6, Q_HB, Q_HO116, Q_HO120, Q_HO124⟩ hb_ hon hoff
                                  refine ⟨_, rfl, fun K hK => ?_⟩
                                  have e57 : a.tmps[57]? = some (.int .i64 ji13) := by rw [ha]; exact (putSel_off rfl).trans rfl
                                  replace ha := Aside0.mk ha
                                  have HO_6 := Aside0.mk Q_HO_6
                                  have HB := Aside0.mk Q_HB
                                  refine Kd.R_make_step (Kd.int .u8) _ 5 (by rfl) (N := 58) rfl 23 _ _ rfl ji13 (by first | rfl | (simp only [Act.eval, Array.getD_eq_getD_getElem?, Option.getD_some, e57])) (by first | rfl | (simp only [Act.eval, Array.getD_eq_getD_getElem?, Option.getD_some, e57])) Try.underlying23 (.int .u8 0) 1 info5 rfl (by decide) (by omega) 0 (ok := fun _ => True) (okp := fun _ => True) rfl (fun _ hk => hk) trivial (of_decide_eq_true (by first | (with_reducible assumption) | assumption)) (Nat.le_trans (Nat.mul_le_mul_right _ (of_decide_eq_true (by first | (with_reducible assumption) | assumption) : ji13.toNat ≤ 281474976710656)) (by omega)) (Below.refl _ _) (Nat.le_refl _) ?_
                                  intro v123 w41 ho42 hb hg_ hnew_
                                  clear hg_ hnew_
                                  (first | rw [← Ny122.out] at ho42 | (simp only [Int.reduceToNat] at ho42; rw [← Ny122.out] at ho42))
                                  have n0_ := Aside0.mk (Kd.R_elder' (by (with_reducible repeat (first | apply Kd.R_alloc | apply Kd.R_drewN | apply Kd.R_drew)); exact HO_6.out) (Kd.R_base ho42) hb)
                                  have n1_ := Aside0.mk (Kd.R_lower (Kd.R_new' ho42 (Kd.R_lt (by (with_reducible repeat (first | apply Kd.R_alloc | apply Kd.R_drewN | apply Kd.R_drew)); exact HO_6.out))) (below_size (by repeat (first | (with_reducible first | exact HB.out | apply below_alloc | apply pw_below_drewN | apply below_drew1) | exact HB.out))))
                                  have n2_ := Aside0.mk (below_step (by repeat (first | (with_reducible first | exact HB.out | apply below_alloc | apply pw_below_drewN | apply below_drew1) | exact HB.out)) hb)
                                  have z_HO116 := fun (h0_ : b 5 = true) => (show Kd.V (Kd.int .u8) 5 w41 w.heap.size (fun k_ => some k_ ≠ (.slice Ao18 x6_2.length co18 : Value).ownBlock) v115 y114 from by first | exact (Kd.V_elder' (by (with_reducible repeat (first | apply Kd.V_alloc | apply Kd.V_drewN | apply Kd.V_drew)); exact (Q_HO116 h0_)) (Kd.R_base ho42) hb) | exact Kd.V_mono (Kd.V_elder' (by (with_reducible repeat (first | apply Kd.V_alloc | apply Kd.V_drewN | apply Kd.V_drew)); exact (Q_HO116 h0_)) (Kd.R_base ho42) hb) (fun _ h_ => by first | trivial | exact h_ | exact h_.1))
                                  have z_HO120 := fun (h0_ : b 10 = true) => (show Kd.V (Kd.int .u8) 5 w41 w.heap.size (fun k_ => some k_ ≠ (.slice Ao18 x6_2.length co18 : Value).ownBlock) v119 y118 from by first | exact (Kd.V_elder' (by (with_reducible repeat (first | apply Kd.V_alloc | apply Kd.V_drewN | apply Kd.V_drew)); exact (Q_HO120 h0_)) (Kd.R_base ho42) hb) | exact Kd.V_mono (Kd.V_elder' (by (with_reducible repeat (first | apply Kd.V_alloc | apply Kd.V_drewN | apply Kd.V_drew)); exact (Q_HO120 h0_)) (Kd.R_base ho42) hb) (fun _ h_ => by first | trivial | exact h_ | exact h_.1))
                                  clear HO_6
                                  clear HB
                                  have HO_6 := n0_
                                  have HO124 := n1_
                                  have HB := n2_
                                  clear n0_ n1_ n2_
                                  clear hb ho42
                                  refine hK.out _ _ ⟨v115, v119, v123, (by rw [ha.out]; exact putSel_upk 8 hb_ rfl rfl rfl), (by (with_reducible repeat (first | apply Kd.R_alloc | apply Kd.R_drewN | apply Kd.R_drew)); exact Kd.R_mono HO_6.out (fun _ hk => by first | exact hk.2 | trivial)), (by repeat (first | (with_reducible first | exact HB.out | apply below_alloc | apply pw_below_drewN | apply below_drew1) | exact HB.out)), z_HO116, z_HO120, fun _ => (by (with_reducible repeat (first | apply Kd.R_alloc | apply Kd.R_drewN | apply Kd.R_drew)); exact Kd.R_mono HO124.out (fun _ hk => by first | exact hk.2 | trivial))⟩
                                refine steps_cons ?_ ?_
                                · rintro b a w' ⟨v115, v119, v123, ha, Q_HO_6, Q_HB, Q_HO116, Q_HO120, Q_HO124⟩ hb_ hon hoff
                                  refine ⟨_, rfl, fun K hK => ?_⟩
                                  have e58 : a.tmps[58]? = some (v123) := by rw [ha]; exact putSel_on (e := (14, 58, v123)) 8 rfl rfl (hon 14 (by kernel_rfl)) rfl
                                  replace ha := Aside0.mk ha
                                  have HO_6 := Aside0.mk Q_HO_6
                                  have HB := Aside0.mk Q_HB
                                  have HO116 := Aside0.mk (Q_HO116 (hon 5 (by kernel_rfl)))
                                  have HO120 := Aside0.mk (Q_HO120 (hon 10 (by kernel_rfl)))
                                  have HO124 := Aside0.mk (Q_HO124 (hon 14 (by kernel_rfl)))
                                  obtain ⟨Ao53, co53, eo53⟩ := Kd.R_slice HO124.out
                                  (first | subst eo53 | (injection eo53 with f1_ f2_ f3_; have f4_ := f1_.symm; have f5_ := f3_.symm; clear f1_ f2_ f3_; subst f4_; subst f5_))
                                  refine goes_ Try.func10 (by kernel_rfl) rfl #[.slice Ao53 y122.length co53] (by rfl) rfl rfl (by first | (simp only [List.map_toArray, List.map_cons, List.map_nil, Act.eval, Array.getD_eq_getD_getElem?, Option.getD_some, e58]; done) | (simp only [List.map_toArray, List.map_cons, List.map_nil, Act.eval, Array.getD_eq_getD_getElem?, Option.getD_some, e58]; rfl)) ?_
                                  with_reducible refine (sum_Of.calls _ _ y122 t125 _ ?side1 ?side2 A39.out).mono ?_
                                  (case side1 => repeat (first | exact (Kd.R_reads' HO124.out).2.2 | (with_reducible refine Kd.C_alloc ?_ _) | (with_reducible refine Kd.C_drewN ?_ _) | (with_reducible refine Kd.C_drew ?_)))
                                  (case side2 => exact (Kd.R_reads' HO124.out).2.1)
                                  rintro e w54 ⟨rfl, hb⟩
                                  refine ⟨_, rfl, ?_⟩
                                  have n0_ := Aside0.mk (Kd.R_below (by (with_reducible repeat (first | apply Kd.R_alloc | apply Kd.R_drewN | apply Kd.R_drew)); exact HO_6.out) hb)
                                  have n1_ := Aside0.mk (Kd.V_below (by (with_reducible repeat (first | apply Kd.V_alloc | apply Kd.V_drewN | apply Kd.V_drew)); exact HO116.out) hb)
                                  have n2_ := Aside0.mk (Kd.V_below (by (with_reducible repeat (first | apply Kd.V_alloc | apply Kd.V_drewN | apply Kd.V_drew)); exact HO120.out) hb)
                                  have n3_ := Aside0.mk (Kd.R_below (by (with_reducible repeat (first | apply Kd.R_alloc | apply Kd.R_drewN | apply Kd.R_drew)); exact HO124.out) hb)
                                  have n4_ := Aside0.mk (below_step (by repeat (first | (with_reducible first | exact HB.out | apply below_alloc | apply pw_below_drewN | apply below_drew1) | exact HB.out)) hb)
                                  clear HO_6
                                  clear HO116
                                  clear HO120
                                  clear HO124
                                  clear HB
                                  have HO_6 := n0_
                                  have HO116 := n1_
                                  have HO120 := n2_
                                  have HO124 := n3_
                                  have HB := n4_
                                  clear n0_ n1_ n2_ n3_ n4_
                                  (try clear hb)
                                  (try clear hb2)
                                  (try clear hk)
                                  (try clear hi)
                                  refine hK.out _ _ ⟨v115, v119, .slice Ao53 y122.length co53, (by rw [ha.out]; exact putSel_upk 9 hb_ rfl rfl rfl), (by (with_reducible repeat (first | apply Kd.R_alloc | apply Kd.R_drewN | apply Kd.R_drew)); exact HO_6.out), (by repeat (first | (with_reducible first | exact HB.out | apply below_alloc | apply pw_below_drewN | apply below_drew1) | exact HB.out)), fun _ => (by (with_reducible repeat (first | apply Kd.V_alloc | apply Kd.V_drewN | apply Kd.V_drew)); exact HO116.out), fun _ => (by (with_reducible repeat (first | apply Kd.V_alloc | apply Kd.V_drewN | apply Kd.V_drew)); exact HO120.out), fun _ => (by (with_reducible repeat (first | apply Kd.R_alloc | apply Kd.R_drewN | apply Kd.R_drew)); exact HO124.out)⟩
                                refine steps_cons ?_ ?_
                                · rintro b a w' ⟨v115, v119, v123, ha, Q_HO_6, Q_HB, Q_HO116, Q_HO120, Q_HO124⟩ hb_ hon hoff
                                  refine ⟨_, rfl, fun K hK => ?_⟩
                                  have e56 : a.tmps[56]? = some (.int .u32 (Go.bits .xor .u32 t117 t121)) := by rw [ha]; exact putSel_on (e := (12, 56, .int .u32 (Go.bits .xor .u32 t117 t121))) 7 rfl rfl (hon 12 (by kernel_rfl)) rfl
                                  have e59 : a.tmps[59]? = some (.int .u32 t125) := by rw [ha]; exact putSel_on (e := (15, 59, .int .u32 t125)) 9 rfl rfl (hon 15 (by kernel_rfl)) rfl
                                  replace ha := Aside0.mk ha
                                  have HO_6 := Aside0.mk Q_HO_6
                                  have HB := Aside0.mk Q_HB
                                  have HO116 := Aside0.mk (Q_HO116 (hon 5 (by kernel_rfl)))
                                  have HO120 := Aside0.mk (Q_HO120 (hon 10 (by kernel_rfl)))
                                  have HO124 := Aside0.mk (Q_HO124 (hon 14 (by kernel_rfl)))
                                  refine value_ (w1 := w') (v := .int .u32 (Go.bits .xor .u32 (Go.bits .xor .u32 t117 t121) t125)) (by rfl) rfl ?_ ?_
                                  · go_simp
                                    (try simp only [i64_w])
                                    try rfl
                                  refine hK.out _ _ ⟨v115, v119, v123, (by rw [ha.out]; exact putSel_upk 10 hb_ rfl rfl rfl), Q_HO_6, Q_HB, Q_HO116, Q_HO120, Q_HO124⟩
                                refine steps_cons ?_ ?_
                                · rintro b a w' ⟨v115, v119, v123, ha, Q_HO_6, Q_HB, Q_HO116, Q_HO120, Q_HO124⟩ hb_ hon hoff
                                  refine ⟨_, rfl, fun K hK => ?_⟩
                                  have e45 : a.tmps[45]? = some (.int .u32 t113) := by rw [ha]; exact putSel_on (e := (1, 45, .int .u32 t113)) 0 rfl rfl (hon 1 (by kernel_rfl)) rfl
                                  have e60 : a.tmps[60]? = some (.int .u32 (Go.bits .xor .u32 (Go.bits .xor .u32 t117 t121) t125)) := by rw [ha]; exact putSel_on (e := (16, 60, .int .u32 (Go.bits .xor .u32 (Go.bits .xor .u32 t117 t121) t125))) 10 rfl rfl (hon 16 (by kernel_rfl)) rfl
                                  replace ha := Aside0.mk ha
                                  have HO_6 := Aside0.mk Q_HO_6
                                  have HB := Aside0.mk Q_HB
                                  have HO116 := Aside0.mk (Q_HO116 (hon 5 (by kernel_rfl)))
                                  have HO120 := Aside0.mk (Q_HO120 (hon 10 (by kernel_rfl)))
                                  have HO124 := Aside0.mk (Q_HO124 (hon 14 (by kernel_rfl)))
                                  refine value_ (w1 := w') (v := .bool (t113 == (Go.bits .xor .u32 (Go.bits .xor .u32 t117 t121) t125))) (by rfl) rfl ?_ ?_
                                  · go_simp
                                    (try simp only [i64_w])
                                    try rfl
                                  refine hK.out _ _ ⟨v115, v119, v123, (by rw [ha.out]; exact putSel_upk 11 hb_ rfl rfl rfl), Q_HO_6, Q_HB, Q_HO116, Q_HO120, Q_HO124⟩
                                refine steps_cons ?_ ?_
                                · rintro b a w' ⟨v115, v119, v123, ha, Q_HO_6, Q_HB, Q_HO116, Q_HO120, Q_HO124⟩ hb_ hon hoff
                                  refine ⟨_, rfl, fun K hK => ?_⟩
                                  have e61 : a.tmps[61]? = some (.bool (t113 == (Go.bits .xor .u32 (Go.bits .xor .u32 t117 t121) t125))) := by rw [ha]; exact putSel_on (e := (17, 61, .bool (t113 == (Go.bits .xor .u32 (Go.bits .xor .u32 t117 t121) t125)))) 11 rfl rfl (hon 17 (by kernel_rfl)) rfl
                                  replace ha := Aside0.mk ha
                                  have HO_6 := Aside0.mk Q_HO_6
                                  have HB := Aside0.mk Q_HB
                                  have HO116 := Aside0.mk (Q_HO116 (hon 5 (by kernel_rfl)))
                                  have HO120 := Aside0.mk (Q_HO120 (hon 10 (by kernel_rfl)))
                                  have HO124 := Aside0.mk (Q_HO124 (hon 14 (by kernel_rfl)))
                                  refine value_ (w1 := w') (v := .bool (t113 == (Go.bits .xor .u32 (Go.bits .xor .u32 t117 t121) t125))) (by rfl) rfl ?_ ?_
                                  · go_simp
                                    (try simp only [i64_w])
                                    try rfl
                                  refine hK.out _ _ ⟨v115, v119, v123, (by rw [ha.out]; exact putSel_upk 12 hb_ rfl rfl rfl), Q_HO_6, Q_HB, Q_HO116, Q_HO120, Q_HO124⟩
                                exact steps_nil
                              rintro b a w54 hall ⟨v115, v119, v123, ha, Q_HO_6, Q_HB, Q_HO116, Q_HO120, Q_HO124⟩
                              clear HB HO_6
                              have hb1_ := hall 1 (by kernel_rfl)
                              have hb4_ := hall 4 (by kernel_rfl)
                              have hb5_ := hall 5 (by kernel_rfl)
                              have hb6_ := hall 6 (by kernel_rfl)
                              have hb9_ := hall 9 (by kernel_rfl)
                              have hb10_ := hall 10 (by kernel_rfl)
                              have hb11_ := hall 11 (by kernel_rfl)
                              have hb12_ := hall 12 (by kernel_rfl)
                              have hb14_ := hall 14 (by kernel_rfl)
                              have hb15_ := hall 15 (by kernel_rfl)
                              have hb16_ := hall 16 (by kernel_rfl)
                              have hb17_ := hall 17 (by kernel_rfl)
                              have hb18_ := hall 18 (by kernel_rfl)
                              subst ha
                              simp only [putSel, hb1_, hb4_, hb5_, hb6_, hb9_, hb10_, hb11_, hb12_, hb14_, hb15_, hb16_, hb17_, hb18_, if_true, Act.put, List.setIfInBounds_toArray, List.set_cons_zero, List.set_cons_succ]
                              have HO_6 := Aside0.mk Q_HO_6
                              clear Q_HO_6
                              have HB := Aside0.mk Q_HB
                              clear Q_HB
                              have HO116 := Aside0.mk (Q_HO116 hb5_)
                              clear Q_HO116
                              have HO120 := Aside0.mk (Q_HO120 hb10_)
                              clear Q_HO120
                              have HO124 := Aside0.mk (Q_HO124 hb14_)
                              clear Q_HO124
                              clear hall hb1_ hb4_ hb5_ hb6_ hb9_ hb10_ hb11_ hb12_ hb14_ hb15_ hb16_ hb17_ hb18_
                              try go_wp2
                              go_ret
                              exact ⟨by first | rfl | (simp [errW_none, errW_some] <;> rfl) | (simp only [← hji13]; first | rfl | (simp [errW_none, errW_some] <;> rfl)) | (simp [*, errW_none, errW_some] <;> rfl), by repeat (first | (with_reducible first | exact HB.out | apply below_alloc | apply pw_below_drewN | apply below_drew1) | exact HB.out)⟩
                            · rw [if_neg c38] at H
                              exact absurd H (by simp)
                          · rw [if_neg c36] at H
                            exact absurd H (by simp)
                        · rw [if_neg c35] at H
                          exact absurd H (by simp)
                      · rw [if_neg c32] at H
                        exact absurd H (by simp)
                    · rw [if_neg c31] at H
                      exact absurd H (by simp)
                  · rw [if_neg c30] at H
                    exact absurd H (by simp)
          · rw [if_neg c15] at H
            exact absurd H (by simp)
        · rw [if_neg c14] at H
          exact absurd H (by simp)

/-- THE ONE PURE STATEMENT of sumLinear0: yours. -/
def sumLinear0.Pure : Prop := ∀ (a0 : ByteArray) (a1 : ByteArray), a0.size ≤ 140737488351232 → a1.size ≤ 140737488351232 → ∃ k, sumLinear0.f k a0 a1 = some true
theorem sumLinear0.walk (P : sumLinear0.Pure) (a0 : ByteArray) (a1 : ByteArray) (w : World) (w0 : a0.size ≤ 140737488351232) (w1 : a1.size ≤ 140737488351232) :
    Calls Try.prog 3 #[.string a0, .string a1] w fun e w' => e = .returned (.bool true) ∧ Below w.heap.size w w' := by
  obtain ⟨k, h⟩ := P a0 a1 w0 w1
  refine (sumLinear0.calls k a0 a1 true w h).mono ?_
  rintro e w' ⟨rfl, hd⟩
  exact ⟨rfl, hd⟩

end Go.Proofs.Ytcjifdgbammocaa.Sl
