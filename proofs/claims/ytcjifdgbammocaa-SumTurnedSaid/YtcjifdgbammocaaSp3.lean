-- by fakeprint.py
import Derived.Test.YtcjifdgbammocaaSp0
import Derived.Test.YtcjifdgbammocaaSp1
namespace Go.Proofs.Ytcjifdgbammocaa.Sp
open Go.Proofs.Ytcjifdgbammocaa.Hand
open Go.RowKit Go.Proofs.YtcjifdgbammocaaW.PrintWords Go.Proofs.YtcjifdgbammocaaW.PrintLast Go.Proofs.YtcjifdgbammocaaW.PrintMore
attribute [local go_sem] max2_int min2_int max_two min_two max_three min_three max_four min_four   -- for this text's walks alone
set_option linter.unusedVariables false
set_option linter.unusedSimpArgs false

/-! ### sapwoodlaw02_SumBack: function 5 -/
def sapwoodlaw02_SumBack.j0 : Nat → ByteArray → Bool → Option (Bool)
  | 0, _, _ => none
  | k + 1, x0, x12 => if x12 = true then ((sapwoodlaw02_awake.f).bind fun t185 => (some t185)) else (if x0.size ≤ 9223372036854775807 then ((sum_Seal.f (bytesOf x0)).bind fun t189 => ((sum_Open.f k t189).bind fun bt192 => (if bt192.2 = true then (if (strOfNums bt192.1).toList = x0.toList then (some ((t189.length : Int) == (wrap64 ((x0.size : Int) + 4)))) else (some false)) else (some false)))) else (none))
def sapwoodlaw02_SumBack.f (k : Nat) (a0 : ByteArray) : Option (Bool) := (sapwoodlaw02_awake.f).bind fun t184 => (if t184 = true then (sapwoodlaw02_SumBack.j0 k a0 (decide ((a0.size : Int) > 5000))) else (sapwoodlaw02_SumBack.j0 k a0 true))
theorem sapwoodlaw02_SumBack.mono_l : ∀ k, (∀ y0 y1, LeO (sapwoodlaw02_SumBack.j0 k y0 y1) (sapwoodlaw02_SumBack.j0 (k + 1) y0 y1))
  | 0 => fun _ _ r h => by simp [sapwoodlaw02_SumBack.j0] at h
  | k + 1 => by
    have ih0 := sapwoodlaw02_SumBack.mono_l k
    · intro y0 y1
      unfold sapwoodlaw02_SumBack.j0
      repeat' first
      | (with_reducible exact ih0 _ _)
      | (with_reducible exact sum_Open.mono _ _)
      | (with_reducible exact LeO.refl _)
      | (with_reducible exact LeO.none _)
      | (with_reducible refine LeO.ite ?_ ?_)
      | (with_reducible refine LeO.bind ?_ (fun _ => ?_))
      | exact ih0 _ _
      | exact sum_Open.mono _ _
      | exact LeO.none _
      | refine LeO.ite ?_ ?_
      | refine LeO.bind ?_ (fun _ => ?_)
theorem sapwoodlaw02_SumBack.mono : ∀ a0 k, LeO (sapwoodlaw02_SumBack.f k a0) (sapwoodlaw02_SumBack.f (k + 1) a0) := by
  intro a0 k
  have ih0 := sapwoodlaw02_SumBack.mono_l k
  unfold sapwoodlaw02_SumBack.f
  repeat' first
      | (with_reducible exact ih0 _ _)
      | (with_reducible exact sum_Open.mono _ _)
      | (with_reducible exact LeO.refl _)
      | (with_reducible exact LeO.none _)
      | (with_reducible refine LeO.ite ?_ ?_)
      | (with_reducible refine LeO.bind ?_ (fun _ => ?_))
      | exact ih0 _ _
      | exact sum_Open.mono _ _
      | exact LeO.none _
      | refine LeO.ite ?_ ?_
      | refine LeO.bind ?_ (fun _ => ?_)
set_option maxHeartbeats 8000000 in
set_option maxRecDepth 100000 in
theorem sapwoodlaw02_SumBack.calls (k : Nat) (a0 : ByteArray) (r : Bool) (w : World) (h : sapwoodlaw02_SumBack.f k a0 = some r) :
    Calls Try.prog 5 #[.string a0] w fun e w' => e = .returned (.bool r) ∧ Below w.heap.size w w' := by
  have HB := Aside0.mk (Below.refl w.heap.size w)
  have H : ((sapwoodlaw02_awake.f).bind fun t184 => (if t184 = true then (sapwoodlaw02_SumBack.j0 k a0 (decide ((a0.size : Int) > 5000))) else (sapwoodlaw02_SumBack.j0 k a0 true))) = some r := h
  clear h
  have HC2 := Aside0.mk H
  clear H
  go_enter Try.func5, Try.ntmps5
  go_upto_region 1 with (fail)
  go_cut [12] (fun v12 wc => ∃ (kq : Nat) (x12_1 : Bool), v12 = .bool x12_1 ∧ Aside0 (sapwoodlaw02_SumBack.j0 kq a0 x12_1 = some r) ∧ Aside0 (kq ≤ k) ∧ Aside0 (Below w.heap.size w wc))
  case first =>
    have H := HC2.out
    clear HC2
    replace H := Option.bind_eq_some_iff.mp H
    obtain ⟨t184, A30, H⟩ := H
    replace H : (if t184 = true then (sapwoodlaw02_SumBack.j0 k a0 (decide ((a0.size : Int) > 5000))) else (sapwoodlaw02_SumBack.j0 k a0 true)) = some r := H
    have A3 := Aside0.mk A30
    clear A30
    by_cases c4 : t184 = true
    · subst c4
      have H1 : (sapwoodlaw02_SumBack.j0 k a0 (decide ((a0.size : Int) > 5000))) = some r := by rw [if_pos rfl] at H; exact H
      clear H
      have H := H1
      clear H1
      have H' := Aside0.mk H
      clear H
      go_wp2_with (first | ((with_reducible refine gate_callee (f := 9) rfl ?_); refine goesL_ (some 6) rfl rfl Try.func9 (by kernel_rfl) rfl #[] rfl (by (try simp only [List.map_toArray, List.map_cons, List.map_nil]); first | done | rfl | (simp only [List.length_drop, List.length_take]; rfl)) ?_; (with_reducible refine (sapwoodlaw02_awake.calls  true _ A3.out).mono ?_); rintro e w5 ⟨rfl, hb⟩; refine ⟨_, rfl, ?_⟩; have n0_ := Aside0.mk (below_step (by repeat (first | (with_reducible first | exact HB.out | apply below_alloc | apply pw_below_drewN | apply below_drew1) | exact HB.out)) hb); clear HB; have HB := n0_; clear n0_; (try clear hb); (try clear hb2); (try clear hk); (try clear hi)))
      go_meet
      case rel => exact ⟨_, (decide ((a0.size : Int) > 5000)), (by first | rfl | (simp; done) | (simp [*]; done)), H', ⟨by first | omega | exact Nat.le_refl _⟩, ⟨by repeat (first | (with_reducible first | exact HB.out | apply below_alloc | apply pw_below_drewN | apply below_drew1) | exact HB.out)⟩⟩
    · replace c4 := Bool.eq_false_iff.mpr c4
      subst c4
      have H1 : (sapwoodlaw02_SumBack.j0 k a0 true) = some r := by rw [if_neg (show ¬ (false = true) by decide)] at H; exact H
      clear H
      have H := H1
      clear H1
      have H' := Aside0.mk H
      clear H
      go_wp2_with (first | ((with_reducible refine gate_callee (f := 9) rfl ?_); refine goesL_ (some 6) rfl rfl Try.func9 (by kernel_rfl) rfl #[] rfl (by (try simp only [List.map_toArray, List.map_cons, List.map_nil]); first | done | rfl | (simp only [List.length_drop, List.length_take]; rfl)) ?_; (with_reducible refine (sapwoodlaw02_awake.calls  false _ A3.out).mono ?_); rintro e w6 ⟨rfl, hb⟩; refine ⟨_, rfl, ?_⟩; have n0_ := Aside0.mk (below_step (by repeat (first | (with_reducible first | exact HB.out | apply below_alloc | apply pw_below_drewN | apply below_drew1) | exact HB.out)) hb); clear HB; have HB := n0_; clear n0_; (try clear hb); (try clear hb2); (try clear hk); (try clear hi)))
      go_meet
      case rel => exact ⟨_, (true), (by first | rfl | (simp; done) | (simp [*]; done)), H', ⟨by first | omega | exact Nat.le_refl _⟩, ⟨by repeat (first | (with_reducible first | exact HB.out | apply below_alloc | apply pw_below_drewN | apply below_drew1) | exact HB.out)⟩⟩
  case rest =>
    clear HC2
    try clear p2
    try clear c4
    try clear c5
    obtain ⟨kq, x12_1, rfl, HA, HJ1, HB⟩ := hcut
    cases kq with
    | zero => exact absurd HA.out (by simp [sapwoodlaw02_SumBack.j0])
    | succ kj1 =>
      have H := HA.out
      clear HA
      simp only [sapwoodlaw02_SumBack.j0] at H
      by_cases c7 : x12_1 = true
      · subst c7
        have H1 : ((sapwoodlaw02_awake.f).bind fun t185 => (some t185)) = some r := by rw [if_pos rfl] at H; exact H
        clear H
        have H := H1
        clear H1
        replace H := Option.bind_eq_some_iff.mp H
        obtain ⟨t185, A80, H⟩ := H
        replace H : (some t185) = some r := H
        have A8 := Aside0.mk A80
        clear A80
        obtain rfl := Option.some.inj H
        go_wp2_with (first | ((with_reducible refine gate_callee (f := 9) rfl ?_); refine goesL_ (some 13) rfl rfl Try.func9 (by kernel_rfl) rfl #[] rfl (by (try simp only [List.map_toArray, List.map_cons, List.map_nil]); first | done | rfl | (simp only [List.length_drop, List.length_take]; rfl)) ?_; (with_reducible refine (sapwoodlaw02_awake.calls  t185 _ A8.out).mono ?_); rintro e w9 ⟨rfl, hb⟩; refine ⟨_, rfl, ?_⟩; have n0_ := Aside0.mk (below_step (by repeat (first | (with_reducible first | exact HB.out | apply below_alloc | apply pw_below_drewN | apply below_drew1) | exact HB.out)) hb); clear HB; have HB := n0_; clear n0_; (try clear hb); (try clear hb2); (try clear hk); (try clear hi)))
        go_ret
        exact ⟨by first | rfl | (simp [errW_none, errW_some] <;> rfl) | (simp [*, errW_none, errW_some] <;> rfl), by repeat (first | (with_reducible first | exact HB.out | apply below_alloc | apply pw_below_drewN | apply below_drew1) | exact HB.out)⟩
      · replace c7 := Bool.eq_false_iff.mpr c7
        subst c7
        have H1 : (if a0.size ≤ 9223372036854775807 then ((sum_Seal.f (bytesOf a0)).bind fun t189 => ((sum_Open.f kj1 t189).bind fun bt192 => (if bt192.2 = true then (if (strOfNums bt192.1).toList = a0.toList then (some ((t189.length : Int) == (wrap64 ((a0.size : Int) + 4)))) else (some false)) else (some false)))) else (none)) = some r := by rw [if_neg (show ¬ (false = true) by decide)] at H; exact H
        clear H
        have H := H1
        clear H1
        by_cases c10 : a0.size ≤ 9223372036854775807
        · rw [if_pos c10] at H
          have c10b0 := eq_true c10
          have c10b1 : decide (a0.size ≤ 9223372036854775807) = true := decide_eq_true c10
          try have c10b2 : (9223372036854775807 < a0.size) = False := eq_false (Nat.not_lt.2 c10)
          clear c10
          obtain ⟨y186, hy186⟩ : ∃ y_ : List Int, y_ = (bytesOf a0) := ⟨_, rfl⟩
          replace H : ((sum_Seal.f y186).bind fun t189 => ((sum_Open.f kj1 t189).bind fun bt192 => (if bt192.2 = true then (if (strOfNums bt192.1).toList = a0.toList then (some ((t189.length : Int) == (wrap64 ((a0.size : Int) + 4)))) else (some false)) else (some false)))) = some r := by first | (rw [hy186]; with_reducible exact H) | (have H2_ := (Option.bind_some _ _).symm.trans H; rw [hy186]; with_reducible exact H2_) | (have H2_ := (Option.bind_some _ _).symm.trans H; with_reducible exact H2_) | with_reducible exact H | (rw [hy186]; exact H) | exact H
          have Ny186 := Aside0.mk hy186
          clear hy186
          replace H := Option.bind_eq_some_iff.mp H
          obtain ⟨t189, A110, H⟩ := H
          replace H : ((sum_Open.f kj1 t189).bind fun bt192 => (if bt192.2 = true then (if (strOfNums bt192.1).toList = a0.toList then (some ((t189.length : Int) == (wrap64 ((a0.size : Int) + 4)))) else (some false)) else (some false))) = some r := H
          have A11 := Aside0.mk A110
          clear A110
          replace H := Option.bind_eq_some_iff.mp H
          obtain ⟨⟨t192, t193⟩, A120, H⟩ := H
          replace H : (if t193 = true then (if (strOfNums t192).toList = a0.toList then (some ((t189.length : Int) == (wrap64 ((a0.size : Int) + 4)))) else (some false)) else (some false)) = some r := H
          have A12 := Aside0.mk A120
          clear A120
          by_cases c13 : t193 = true
          · subst c13
            have H1 : (if (strOfNums t192).toList = a0.toList then (some ((t189.length : Int) == (wrap64 ((a0.size : Int) + 4)))) else (some false)) = some r := by rw [if_pos rfl] at H; exact H
            clear H
            have H := H1
            clear H1
            by_cases c14 : (strOfNums t192).toList = a0.toList
            · rw [if_pos c14] at H
              have c14b0 : ((strOfNums t192).toList == a0.toList) = true := beq_iff_eq.mpr c14
              have c14b1 : ((strOfNums t192).toList != a0.toList) = false := bne_eq_false_iff_eq.mpr c14
              clear c14
              obtain rfl := Option.some.inj H
              go_wp2_with (first | ((with_reducible refine gate_dst (N := 15) rfl ?_); (try (refine gate_guard (by rfl) ?_; dsimp only)); refine Hand.V_bytes _ 5 rfl (N := 15) rfl 9 23 _ rfl a0 rfl Try.underlying9 Try.underlying23 Try.underlying5 (of_decide_eq_true (by first | (with_reducible assumption) | assumption)) (fun _ hk_ => hk_) (ok := fun k_ => wc.heap.size ≤ k_) (Below.refl _ _) (Nat.le_refl _) ?_; intro v187 w15 ho16 hb hg_ hnew_; clear hg_ hnew_; (first | rw [← Ny186.out] at ho16 | (simp only [Int.reduceToNat] at ho16; rw [← Ny186.out] at ho16)); have n0_ := Aside0.mk (Kd.V_lower (Kd.V_mono (ok' := fun k_ => True) ho16 (fun k_ hk_ => trivial)) (below_size (by repeat (first | (with_reducible first | exact HB.out | apply below_alloc | apply pw_below_drewN | apply below_drew1) | exact HB.out)))); have n1_ := Aside0.mk (below_step (by repeat (first | (with_reducible first | exact HB.out | apply below_alloc | apply pw_below_drewN | apply below_drew1) | exact HB.out)) hb); clear HB; have HO188 := n0_; have HB := n1_; clear n0_ n1_; clear hb ho16; obtain ⟨Ao17, co17, eo17⟩ := Kd.V_slice HO188.out; subst eo17) | ((with_reducible refine gate_callee (f := 14) rfl ?_); refine goesL_ (some 16) rfl rfl Try.func14 (by kernel_rfl) rfl #[.slice Ao17 y186.length co17] rfl (by (try simp only [List.map_toArray, List.map_cons, List.map_nil]); first | done | rfl | (simp only [List.length_drop, List.length_take]; rfl)) ?_; (with_reducible refine (sum_Seal.calls _ _ y186 t189 _ ?side1 ?side2 A11.out).mono ?_); (case side1 => repeat (first | exact (Kd.V_reads' HO188.out).2.2 | (with_reducible refine Kd.C_alloc ?_ _) | (with_reducible refine Kd.C_drewN ?_ _) | (with_reducible refine Kd.C_drew ?_))); (case side2 => exact (Kd.V_reads' HO188.out).2.1); rintro e w18 ⟨v190, rfl, ho0, hb⟩; refine ⟨_, rfl, ?_⟩; have n0_ := Aside0.mk (Kd.V_elder' (by (with_reducible repeat (first | apply Kd.V_alloc | apply Kd.V_drewN | apply Kd.V_drew)); exact HO188.out) (Kd.R_base ho0) hb); have n1_ := Aside0.mk (Kd.R_lower ho0 (below_size (by repeat (first | (with_reducible first | exact HB.out | apply below_alloc | apply pw_below_drewN | apply below_drew1) | exact HB.out)))); have n2_ := Aside0.mk (below_step (by repeat (first | (with_reducible first | exact HB.out | apply below_alloc | apply pw_below_drewN | apply below_drew1) | exact HB.out)) hb); clear HO188; clear HB; have HO188 := n0_; have HO191 := n1_; have HB := n2_; clear n0_ n1_ n2_; (try clear hb); (try clear hb2); (try clear hk); (try clear hi); (try clear ho0); obtain ⟨Ao19, co19, eo19⟩ := Kd.R_slice HO191.out; subst eo19) | ((with_reducible refine gate_callee (f := 11) rfl ?_); refine goesL_ (some 19) rfl rfl Try.func11 (by kernel_rfl) rfl #[.slice Ao19 t189.length co19] rfl (by (try simp only [List.map_toArray, List.map_cons, List.map_nil]); first | done | rfl | (simp only [List.length_drop, List.length_take]; rfl)) ?_; (with_reducible refine (sum_Open.calls kj1 _ _ t189 t192 true _ ?side1 ?side2 A12.out).mono ?_); (case side1 => repeat (first | exact (Kd.R_reads' HO191.out).2.2 | (with_reducible refine Kd.C_alloc ?_ _) | (with_reducible refine Kd.C_drewN ?_ _) | (with_reducible refine Kd.C_drew ?_))); (case side2 => exact (Kd.R_reads' HO191.out).2.1); rintro e w20 ⟨v194, rfl, ho0, hb⟩; refine ⟨_, rfl, ?_⟩; have n0_ := Aside0.mk (Kd.V_elder' (by (with_reducible repeat (first | apply Kd.V_alloc | apply Kd.V_drewN | apply Kd.V_drew)); exact HO188.out) (Kd.R_base ho0) hb); have n1_ := Aside0.mk (Kd.R_elder' (by (with_reducible repeat (first | apply Kd.R_alloc | apply Kd.R_drewN | apply Kd.R_drew)); exact HO191.out) (Kd.R_base ho0) hb); have n2_ := Aside0.mk (Kd.R_lower (Kd.R_new' ho0 (Kd.R_lt (by (with_reducible repeat (first | apply Kd.R_alloc | apply Kd.R_drewN | apply Kd.R_drew)); exact HO191.out))) (below_size (by repeat (first | (with_reducible first | exact HB.out | apply below_alloc | apply pw_below_drewN | apply below_drew1) | exact HB.out)))); have n3_ := Aside0.mk (below_step (by repeat (first | (with_reducible first | exact HB.out | apply below_alloc | apply pw_below_drewN | apply below_drew1) | exact HB.out)) hb); clear HO188; clear HO191; clear HB; have HO188 := n0_; have HO191 := n1_; have HO195 := n2_; have HB := n3_; clear n0_ n1_ n2_ n3_; (try clear hb); (try clear hb2); (try clear hk); (try clear hi); (try clear ho0); have hcv21 := own_string (P := Try.prog) Try.underlying23 Try.underlying5 Try.underlying9 (Kd.own_of_R HO195.out)))
              go_ret
              exact ⟨by first | rfl | (simp [errW_none, errW_some] <;> rfl) | (simp [*, errW_none, errW_some] <;> rfl), by repeat (first | (with_reducible first | exact HB.out | apply below_alloc | apply pw_below_drewN | apply below_drew1) | exact HB.out)⟩
            · rw [if_neg c14] at H
              have c14b0 : ((strOfNums t192).toList == a0.toList) = false := beq_eq_false_iff_ne.mpr c14
              have c14b1 : ((strOfNums t192).toList != a0.toList) = true := bne_iff_ne.mpr c14
              obtain rfl := Option.some.inj H
              go_wp2_with (first | ((with_reducible refine gate_dst (N := 15) rfl ?_); (try (refine gate_guard (by rfl) ?_; dsimp only)); refine Hand.V_bytes _ 5 rfl (N := 15) rfl 9 23 _ rfl a0 rfl Try.underlying9 Try.underlying23 Try.underlying5 (of_decide_eq_true (by first | (with_reducible assumption) | assumption)) (fun _ hk_ => hk_) (ok := fun k_ => wc.heap.size ≤ k_) (Below.refl _ _) (Nat.le_refl _) ?_; intro v187 w22 ho23 hb hg_ hnew_; clear hg_ hnew_; (first | rw [← Ny186.out] at ho23 | (simp only [Int.reduceToNat] at ho23; rw [← Ny186.out] at ho23)); have n0_ := Aside0.mk (Kd.V_lower (Kd.V_mono (ok' := fun k_ => True) ho23 (fun k_ hk_ => trivial)) (below_size (by repeat (first | (with_reducible first | exact HB.out | apply below_alloc | apply pw_below_drewN | apply below_drew1) | exact HB.out)))); have n1_ := Aside0.mk (below_step (by repeat (first | (with_reducible first | exact HB.out | apply below_alloc | apply pw_below_drewN | apply below_drew1) | exact HB.out)) hb); clear HB; have HO188 := n0_; have HB := n1_; clear n0_ n1_; clear hb ho23; obtain ⟨Ao24, co24, eo24⟩ := Kd.V_slice HO188.out; subst eo24) | ((with_reducible refine gate_callee (f := 14) rfl ?_); refine goesL_ (some 16) rfl rfl Try.func14 (by kernel_rfl) rfl #[.slice Ao24 y186.length co24] rfl (by (try simp only [List.map_toArray, List.map_cons, List.map_nil]); first | done | rfl | (simp only [List.length_drop, List.length_take]; rfl)) ?_; (with_reducible refine (sum_Seal.calls _ _ y186 t189 _ ?side1 ?side2 A11.out).mono ?_); (case side1 => repeat (first | exact (Kd.V_reads' HO188.out).2.2 | (with_reducible refine Kd.C_alloc ?_ _) | (with_reducible refine Kd.C_drewN ?_ _) | (with_reducible refine Kd.C_drew ?_))); (case side2 => exact (Kd.V_reads' HO188.out).2.1); rintro e w25 ⟨v190, rfl, ho0, hb⟩; refine ⟨_, rfl, ?_⟩; have n0_ := Aside0.mk (Kd.V_elder' (by (with_reducible repeat (first | apply Kd.V_alloc | apply Kd.V_drewN | apply Kd.V_drew)); exact HO188.out) (Kd.R_base ho0) hb); have n1_ := Aside0.mk (Kd.R_lower ho0 (below_size (by repeat (first | (with_reducible first | exact HB.out | apply below_alloc | apply pw_below_drewN | apply below_drew1) | exact HB.out)))); have n2_ := Aside0.mk (below_step (by repeat (first | (with_reducible first | exact HB.out | apply below_alloc | apply pw_below_drewN | apply below_drew1) | exact HB.out)) hb); clear HO188; clear HB; have HO188 := n0_; have HO191 := n1_; have HB := n2_; clear n0_ n1_ n2_; (try clear hb); (try clear hb2); (try clear hk); (try clear hi); (try clear ho0); obtain ⟨Ao26, co26, eo26⟩ := Kd.R_slice HO191.out; subst eo26) | ((with_reducible refine gate_callee (f := 11) rfl ?_); refine goesL_ (some 19) rfl rfl Try.func11 (by kernel_rfl) rfl #[.slice Ao26 t189.length co26] rfl (by (try simp only [List.map_toArray, List.map_cons, List.map_nil]); first | done | rfl | (simp only [List.length_drop, List.length_take]; rfl)) ?_; (with_reducible refine (sum_Open.calls kj1 _ _ t189 t192 true _ ?side1 ?side2 A12.out).mono ?_); (case side1 => repeat (first | exact (Kd.R_reads' HO191.out).2.2 | (with_reducible refine Kd.C_alloc ?_ _) | (with_reducible refine Kd.C_drewN ?_ _) | (with_reducible refine Kd.C_drew ?_))); (case side2 => exact (Kd.R_reads' HO191.out).2.1); rintro e w27 ⟨v194, rfl, ho0, hb⟩; refine ⟨_, rfl, ?_⟩; have n0_ := Aside0.mk (Kd.V_elder' (by (with_reducible repeat (first | apply Kd.V_alloc | apply Kd.V_drewN | apply Kd.V_drew)); exact HO188.out) (Kd.R_base ho0) hb); have n1_ := Aside0.mk (Kd.R_elder' (by (with_reducible repeat (first | apply Kd.R_alloc | apply Kd.R_drewN | apply Kd.R_drew)); exact HO191.out) (Kd.R_base ho0) hb); have n2_ := Aside0.mk (Kd.R_lower (Kd.R_new' ho0 (Kd.R_lt (by (with_reducible repeat (first | apply Kd.R_alloc | apply Kd.R_drewN | apply Kd.R_drew)); exact HO191.out))) (below_size (by repeat (first | (with_reducible first | exact HB.out | apply below_alloc | apply pw_below_drewN | apply below_drew1) | exact HB.out)))); have n3_ := Aside0.mk (below_step (by repeat (first | (with_reducible first | exact HB.out | apply below_alloc | apply pw_below_drewN | apply below_drew1) | exact HB.out)) hb); clear HO188; clear HO191; clear HB; have HO188 := n0_; have HO191 := n1_; have HO195 := n2_; have HB := n3_; clear n0_ n1_ n2_ n3_; (try clear hb); (try clear hb2); (try clear hk); (try clear hi); (try clear ho0); have hcv28 := own_string (P := Try.prog) Try.underlying23 Try.underlying5 Try.underlying9 (Kd.own_of_R HO195.out)))
              go_ret
              exact ⟨by first | rfl | (simp [errW_none, errW_some] <;> rfl) | (simp [*, errW_none, errW_some] <;> rfl), by repeat (first | (with_reducible first | exact HB.out | apply below_alloc | apply pw_below_drewN | apply below_drew1) | exact HB.out)⟩
          · replace c13 := Bool.eq_false_iff.mpr c13
            subst c13
            have H1 : (some false) = some r := by rw [if_neg (show ¬ (false = true) by decide)] at H; exact H
            clear H
            have H := H1
            clear H1
            obtain rfl := Option.some.inj H
            go_wp2_with (first | ((with_reducible refine gate_dst (N := 15) rfl ?_); (try (refine gate_guard (by rfl) ?_; dsimp only)); refine Hand.V_bytes _ 5 rfl (N := 15) rfl 9 23 _ rfl a0 rfl Try.underlying9 Try.underlying23 Try.underlying5 (of_decide_eq_true (by first | (with_reducible assumption) | assumption)) (fun _ hk_ => hk_) (ok := fun k_ => wc.heap.size ≤ k_) (Below.refl _ _) (Nat.le_refl _) ?_; intro v187 w29 ho30 hb hg_ hnew_; clear hg_ hnew_; (first | rw [← Ny186.out] at ho30 | (simp only [Int.reduceToNat] at ho30; rw [← Ny186.out] at ho30)); have n0_ := Aside0.mk (Kd.V_lower (Kd.V_mono (ok' := fun k_ => True) ho30 (fun k_ hk_ => trivial)) (below_size (by repeat (first | (with_reducible first | exact HB.out | apply below_alloc | apply pw_below_drewN | apply below_drew1) | exact HB.out)))); have n1_ := Aside0.mk (below_step (by repeat (first | (with_reducible first | exact HB.out | apply below_alloc | apply pw_below_drewN | apply below_drew1) | exact HB.out)) hb); clear HB; have HO188 := n0_; have HB := n1_; clear n0_ n1_; clear hb ho30; obtain ⟨Ao31, co31, eo31⟩ := Kd.V_slice HO188.out; subst eo31) | ((with_reducible refine gate_callee (f := 14) rfl ?_); refine goesL_ (some 16) rfl rfl Try.func14 (by kernel_rfl) rfl #[.slice Ao31 y186.length co31] rfl (by (try simp only [List.map_toArray, List.map_cons, List.map_nil]); first | done | rfl | (simp only [List.length_drop, List.length_take]; rfl)) ?_; (with_reducible refine (sum_Seal.calls _ _ y186 t189 _ ?side1 ?side2 A11.out).mono ?_); (case side1 => repeat (first | exact (Kd.V_reads' HO188.out).2.2 | (with_reducible refine Kd.C_alloc ?_ _) | (with_reducible refine Kd.C_drewN ?_ _) | (with_reducible refine Kd.C_drew ?_))); (case side2 => exact (Kd.V_reads' HO188.out).2.1); rintro e w32 ⟨v190, rfl, ho0, hb⟩; refine ⟨_, rfl, ?_⟩; have n0_ := Aside0.mk (Kd.V_elder' (by (with_reducible repeat (first | apply Kd.V_alloc | apply Kd.V_drewN | apply Kd.V_drew)); exact HO188.out) (Kd.R_base ho0) hb); have n1_ := Aside0.mk (Kd.R_lower ho0 (below_size (by repeat (first | (with_reducible first | exact HB.out | apply below_alloc | apply pw_below_drewN | apply below_drew1) | exact HB.out)))); have n2_ := Aside0.mk (below_step (by repeat (first | (with_reducible first | exact HB.out | apply below_alloc | apply pw_below_drewN | apply below_drew1) | exact HB.out)) hb); clear HO188; clear HB; have HO188 := n0_; have HO191 := n1_; have HB := n2_; clear n0_ n1_ n2_; (try clear hb); (try clear hb2); (try clear hk); (try clear hi); (try clear ho0); obtain ⟨Ao33, co33, eo33⟩ := Kd.R_slice HO191.out; subst eo33) | ((with_reducible refine gate_callee (f := 11) rfl ?_); refine goesL_ (some 19) rfl rfl Try.func11 (by kernel_rfl) rfl #[.slice Ao33 t189.length co33] rfl (by (try simp only [List.map_toArray, List.map_cons, List.map_nil]); first | done | rfl | (simp only [List.length_drop, List.length_take]; rfl)) ?_; (with_reducible refine (sum_Open.calls kj1 _ _ t189 t192 false _ ?side1 ?side2 A12.out).mono ?_); (case side1 => repeat (first | exact (Kd.R_reads' HO191.out).2.2 | (with_reducible refine Kd.C_alloc ?_ _) | (with_reducible refine Kd.C_drewN ?_ _) | (with_reducible refine Kd.C_drew ?_))); (case side2 => exact (Kd.R_reads' HO191.out).2.1); rintro e w34 ⟨v194, rfl, ho0, hb⟩; refine ⟨_, rfl, ?_⟩; have n0_ := Aside0.mk (Kd.V_elder' (by (with_reducible repeat (first | apply Kd.V_alloc | apply Kd.V_drewN | apply Kd.V_drew)); exact HO188.out) (Kd.R_base ho0) hb); have n1_ := Aside0.mk (Kd.R_elder' (by (with_reducible repeat (first | apply Kd.R_alloc | apply Kd.R_drewN | apply Kd.R_drew)); exact HO191.out) (Kd.R_base ho0) hb); have n2_ := Aside0.mk (Kd.R_lower (Kd.R_new' ho0 (Kd.R_lt (by (with_reducible repeat (first | apply Kd.R_alloc | apply Kd.R_drewN | apply Kd.R_drew)); exact HO191.out))) (below_size (by repeat (first | (with_reducible first | exact HB.out | apply below_alloc | apply pw_below_drewN | apply below_drew1) | exact HB.out)))); have n3_ := Aside0.mk (below_step (by repeat (first | (with_reducible first | exact HB.out | apply below_alloc | apply pw_below_drewN | apply below_drew1) | exact HB.out)) hb); clear HO188; clear HO191; clear HB; have HO188 := n0_; have HO191 := n1_; have HO195 := n2_; have HB := n3_; clear n0_ n1_ n2_ n3_; (try clear hb); (try clear hb2); (try clear hk); (try clear hi); (try clear ho0)))
            go_ret
            exact ⟨by first | rfl | (simp [errW_none, errW_some] <;> rfl) | (simp [*, errW_none, errW_some] <;> rfl), by repeat (first | (with_reducible first | exact HB.out | apply below_alloc | apply pw_below_drewN | apply below_drew1) | exact HB.out)⟩
        · rw [if_neg c10] at H
          exact absurd H (by simp)

/-- THE ONE PURE STATEMENT of sapwoodlaw02_SumBack: yours. -/
def sapwoodlaw02_SumBack.Pure : Prop := ∀ (a0 : ByteArray), a0.size ≤ 140737488351232 → ∃ k, sapwoodlaw02_SumBack.f k a0 = some true
theorem sapwoodlaw02_SumBack.walk (P : sapwoodlaw02_SumBack.Pure) (a0 : ByteArray) (w : World) (w0 : a0.size ≤ 140737488351232) :
    Calls Try.prog 5 #[.string a0] w fun e w' => e = .returned (.bool true) ∧ Below w.heap.size w w' := by
  obtain ⟨k, h⟩ := P a0 w0
  refine (sapwoodlaw02_SumBack.calls k a0 true w h).mono ?_
  rintro e w' ⟨rfl, hd⟩
  exact ⟨rfl, hd⟩

/-! ### sapwoodlaw02_SumTurned: function 6 -/
mutual
def sapwoodlaw02_SumTurned.j0 : Nat → ByteArray → Int → Int → Bool → Option (Bool)
  | 0, _, _, _, _ => none
  | k + 1, x0, x1, x2, x18 => if x18 = true then ((sapwoodlaw02_awake.f).bind fun t197 => (some t197)) else (if x0.size ≤ 9223372036854775807 then ((sum_Seal.f (bytesOf x0)).bind fun t201 => (if (t201.length : Int) = (wrap64 ((x0.size : Int) + 4)) then (if (IntKind.u64.wrap (wrap64 ((wrap64 (8 * (t201.length : Int))) - 31))) = 0 then (none) else (sapwoodlaw02_SumTurned.l0 k x2 t201 (wrap64 (Int.tmod x1 (IntKind.u64.wrap (wrap64 ((wrap64 (8 * (t201.length : Int))) - 31))))) 0)) else (some false))) else (none))
def sapwoodlaw02_SumTurned.l0 : Nat → Int → List Int → Int → Int → Option (Bool)
  | 0, _, _, _, _ => none
  | k + 1, x2, x7, x8, x9 => if x9 < 32 then (if 0 ≤ (IntKind.u64.wrap (wrap64 (31 - x9))) then (if (Go.bits .and .u32 (shr .u32 x2 (IntKind.u64.wrap (wrap64 (31 - x9)))) 1) = 1 then (if 0 ≤ (wrap64 (Int.tdiv (wrap64 (x8 + x9)) 8)) then (if (wrap64 (Int.tdiv (wrap64 (x8 + x9)) 8)) < (x7.length : Int) then (if 0 ≤ (IntKind.u64.wrap (Int.tmod (wrap64 (x8 + x9)) 8)) then (sapwoodlaw02_SumTurned.l0 k x2 (x7.set ((wrap64 (Int.tdiv (wrap64 (x8 + x9)) 8)) : Int).toNat (Go.bits .xor .u8 (rd x7 (wrap64 (Int.tdiv (wrap64 (x8 + x9)) 8))) (shr .u8 128 (IntKind.u64.wrap (Int.tmod (wrap64 (x8 + x9)) 8))))) x8 (wrap64 (x9 + 1))) else (none)) else (none)) else (none)) else (sapwoodlaw02_SumTurned.l0 k x2 x7 x8 (wrap64 (x9 + 1)))) else (none)) else ((sum_Open.f k x7).bind fun bt206 => (if (bt206.2 == (x2 == 0)) = true then (if bt206.2 = true then (some true) else (some ((bt206.1.length : Int) == 0))) else (some false)))
end
def sapwoodlaw02_SumTurned.f (k : Nat) (a0 : ByteArray) (a1 : Int) (a2 : Int) : Option (Bool) := (sapwoodlaw02_awake.f).bind fun t196 => (if t196 = true then (sapwoodlaw02_SumTurned.j0 k a0 a1 a2 (decide ((a0.size : Int) > 5000))) else (sapwoodlaw02_SumTurned.j0 k a0 a1 a2 true))
theorem sapwoodlaw02_SumTurned.mono_l : ∀ k, (∀ y0 y1 y2 y3, LeO (sapwoodlaw02_SumTurned.j0 k y0 y1 y2 y3) (sapwoodlaw02_SumTurned.j0 (k + 1) y0 y1 y2 y3)) ∧ (∀ y0 y1 y2 y3, LeO (sapwoodlaw02_SumTurned.l0 k y0 y1 y2 y3) (sapwoodlaw02_SumTurned.l0 (k + 1) y0 y1 y2 y3))
  | 0 => ⟨fun _ _ _ _ r h => by simp [sapwoodlaw02_SumTurned.j0] at h, fun _ _ _ _ r h => by simp [sapwoodlaw02_SumTurned.l0] at h⟩
  | k + 1 => by
    obtain ⟨ih0, ih1⟩ := sapwoodlaw02_SumTurned.mono_l k
    refine ⟨?_, ?_⟩
    · intro y0 y1 y2 y3
      unfold sapwoodlaw02_SumTurned.j0
      repeat' first
      | (with_reducible exact ih0 _ _ _ _)
      | (with_reducible exact ih1 _ _ _ _)
      | (with_reducible exact sum_Open.mono _ _)
      | (with_reducible exact LeO.refl _)
      | (with_reducible exact LeO.none _)
      | (with_reducible refine LeO.ite ?_ ?_)
      | (with_reducible refine LeO.bind ?_ (fun _ => ?_))
      | exact ih0 _ _ _ _
      | exact ih1 _ _ _ _
      | exact sum_Open.mono _ _
      | exact LeO.none _
      | refine LeO.ite ?_ ?_
      | refine LeO.bind ?_ (fun _ => ?_)
    · intro y0 y1 y2 y3
      unfold sapwoodlaw02_SumTurned.l0
      repeat' first
      | (with_reducible exact ih0 _ _ _ _)
      | (with_reducible exact ih1 _ _ _ _)
      | (with_reducible exact sum_Open.mono _ _)
      | (with_reducible exact LeO.refl _)
      | (with_reducible exact LeO.none _)
      | (with_reducible refine LeO.ite ?_ ?_)
      | (with_reducible refine LeO.bind ?_ (fun _ => ?_))
      | exact ih0 _ _ _ _
      | exact ih1 _ _ _ _
      | exact sum_Open.mono _ _
      | exact LeO.none _
      | refine LeO.ite ?_ ?_
      | refine LeO.bind ?_ (fun _ => ?_)
theorem sapwoodlaw02_SumTurned.mono : ∀ a0 a1 a2 k, LeO (sapwoodlaw02_SumTurned.f k a0 a1 a2) (sapwoodlaw02_SumTurned.f (k + 1) a0 a1 a2) := by
  intro a0 a1 a2 k
  obtain ⟨ih0, ih1⟩ := sapwoodlaw02_SumTurned.mono_l k
  unfold sapwoodlaw02_SumTurned.f
  repeat' first
      | (with_reducible exact ih0 _ _ _ _)
      | (with_reducible exact ih1 _ _ _ _)
      | (with_reducible exact sum_Open.mono _ _)
      | (with_reducible exact LeO.refl _)
      | (with_reducible exact LeO.none _)
      | (with_reducible refine LeO.ite ?_ ?_)
      | (with_reducible refine LeO.bind ?_ (fun _ => ?_))
      | exact ih0 _ _ _ _
      | exact ih1 _ _ _ _
      | exact sum_Open.mono _ _
      | exact LeO.none _
      | refine LeO.ite ?_ ?_
      | refine LeO.bind ?_ (fun _ => ?_)
set_option maxHeartbeats 8000000 in
set_option maxRecDepth 100000 in
theorem sapwoodlaw02_SumTurned.calls (k : Nat) (a0 : ByteArray) (a1 : Int) (a2 : Int) (r : Bool) (w : World) (h : sapwoodlaw02_SumTurned.f k a0 a1 a2 = some r) :
    Calls Try.prog 6 #[.string a0, .int .u64 a1, .int .u32 a2] w fun e w' => e = .returned (.bool r) ∧ Below w.heap.size w w' := by
  have HB := Aside0.mk (Below.refl w.heap.size w)
  have H : ((sapwoodlaw02_awake.f).bind fun t196 => (if t196 = true then (sapwoodlaw02_SumTurned.j0 k a0 a1 a2 (decide ((a0.size : Int) > 5000))) else (sapwoodlaw02_SumTurned.j0 k a0 a1 a2 true))) = some r := h
  clear h
  have HC4 := Aside0.mk H
  clear H
  go_enter Try.func6, Try.ntmps6
  go_upto_region 1 with (fail)
  go_cut [18] (fun v18 wc => ∃ (kq : Nat) (x18_3 : Bool), v18 = .bool x18_3 ∧ Aside0 (sapwoodlaw02_SumTurned.j0 kq a0 a1 a2 x18_3 = some r) ∧ Aside0 (kq ≤ k) ∧ Aside0 (Below w.heap.size w wc))
  case first =>
    have H := HC4.out
    clear HC4
    replace H := Option.bind_eq_some_iff.mp H
    obtain ⟨t196, A50, H⟩ := H
    replace H : (if t196 = true then (sapwoodlaw02_SumTurned.j0 k a0 a1 a2 (decide ((a0.size : Int) > 5000))) else (sapwoodlaw02_SumTurned.j0 k a0 a1 a2 true)) = some r := H
    have A5 := Aside0.mk A50
    clear A50
    by_cases c6 : t196 = true
    · subst c6
      have H1 : (sapwoodlaw02_SumTurned.j0 k a0 a1 a2 (decide ((a0.size : Int) > 5000))) = some r := by rw [if_pos rfl] at H; exact H
      clear H
      have H := H1
      clear H1
      have H' := Aside0.mk H
      clear H
      go_wp2_with (first | ((with_reducible refine gate_callee (f := 9) rfl ?_); refine goesL_ (some 12) rfl rfl Try.func9 (by kernel_rfl) rfl #[] rfl (by (try simp only [List.map_toArray, List.map_cons, List.map_nil]); first | done | rfl | (simp only [List.length_drop, List.length_take]; rfl)) ?_; (with_reducible refine (sapwoodlaw02_awake.calls  true _ A5.out).mono ?_); rintro e w7 ⟨rfl, hb⟩; refine ⟨_, rfl, ?_⟩; have n0_ := Aside0.mk (below_step (by repeat (first | (with_reducible first | exact HB.out | apply below_alloc | apply pw_below_drewN | apply below_drew1) | exact HB.out)) hb); clear HB; have HB := n0_; clear n0_; (try clear hb); (try clear hb2); (try clear hk); (try clear hi)))
      go_meet
      case rel => exact ⟨_, (decide ((a0.size : Int) > 5000)), (by first | rfl | (simp; done) | (simp [*]; done)), H', ⟨by first | omega | exact Nat.le_refl _⟩, ⟨by repeat (first | (with_reducible first | exact HB.out | apply below_alloc | apply pw_below_drewN | apply below_drew1) | exact HB.out)⟩⟩
    · replace c6 := Bool.eq_false_iff.mpr c6
      subst c6
      have H1 : (sapwoodlaw02_SumTurned.j0 k a0 a1 a2 true) = some r := by rw [if_neg (show ¬ (false = true) by decide)] at H; exact H
      clear H
      have H := H1
      clear H1
      have H' := Aside0.mk H
      clear H
      go_wp2_with (first | ((with_reducible refine gate_callee (f := 9) rfl ?_); refine goesL_ (some 12) rfl rfl Try.func9 (by kernel_rfl) rfl #[] rfl (by (try simp only [List.map_toArray, List.map_cons, List.map_nil]); first | done | rfl | (simp only [List.length_drop, List.length_take]; rfl)) ?_; (with_reducible refine (sapwoodlaw02_awake.calls  false _ A5.out).mono ?_); rintro e w8 ⟨rfl, hb⟩; refine ⟨_, rfl, ?_⟩; have n0_ := Aside0.mk (below_step (by repeat (first | (with_reducible first | exact HB.out | apply below_alloc | apply pw_below_drewN | apply below_drew1) | exact HB.out)) hb); clear HB; have HB := n0_; clear n0_; (try clear hb); (try clear hb2); (try clear hk); (try clear hi)))
      go_meet
      case rel => exact ⟨_, (true), (by first | rfl | (simp; done) | (simp [*]; done)), H', ⟨by first | omega | exact Nat.le_refl _⟩, ⟨by repeat (first | (with_reducible first | exact HB.out | apply below_alloc | apply pw_below_drewN | apply below_drew1) | exact HB.out)⟩⟩
  case rest =>
    clear HC4
    try clear p2
    try clear c6
    obtain ⟨kq, x18_3, rfl, HA, HJ3, HB⟩ := hcut
    cases kq with
    | zero => exact absurd HA.out (by simp [sapwoodlaw02_SumTurned.j0])
    | succ kj3 =>
      have H := HA.out
      clear HA
      simp only [sapwoodlaw02_SumTurned.j0] at H
      by_cases c9 : x18_3 = true
      · subst c9
        have H1 : ((sapwoodlaw02_awake.f).bind fun t197 => (some t197)) = some r := by rw [if_pos rfl] at H; exact H
        clear H
        have H := H1
        clear H1
        replace H := Option.bind_eq_some_iff.mp H
        obtain ⟨t197, A100, H⟩ := H
        replace H : (some t197) = some r := H
        have A10 := Aside0.mk A100
        clear A100
        obtain rfl := Option.some.inj H
        go_wp2_with (first | ((with_reducible refine gate_callee (f := 9) rfl ?_); refine goesL_ (some 19) rfl rfl Try.func9 (by kernel_rfl) rfl #[] rfl (by (try simp only [List.map_toArray, List.map_cons, List.map_nil]); first | done | rfl | (simp only [List.length_drop, List.length_take]; rfl)) ?_; (with_reducible refine (sapwoodlaw02_awake.calls  t197 _ A10.out).mono ?_); rintro e w11 ⟨rfl, hb⟩; refine ⟨_, rfl, ?_⟩; have n0_ := Aside0.mk (below_step (by repeat (first | (with_reducible first | exact HB.out | apply below_alloc | apply pw_below_drewN | apply below_drew1) | exact HB.out)) hb); clear HB; have HB := n0_; clear n0_; (try clear hb); (try clear hb2); (try clear hk); (try clear hi)))
        go_ret
        exact ⟨by first | rfl | (simp [errW_none, errW_some] <;> rfl) | (simp [*, errW_none, errW_some] <;> rfl), by repeat (first | (with_reducible first | exact HB.out | apply below_alloc | apply pw_below_drewN | apply below_drew1) | exact HB.out)⟩
      · replace c9 := Bool.eq_false_iff.mpr c9
        subst c9
        have H1 : (if a0.size ≤ 9223372036854775807 then ((sum_Seal.f (bytesOf a0)).bind fun t201 => (if (t201.length : Int) = (wrap64 ((a0.size : Int) + 4)) then (if (IntKind.u64.wrap (wrap64 ((wrap64 (8 * (t201.length : Int))) - 31))) = 0 then (none) else (sapwoodlaw02_SumTurned.l0 kj3 a2 t201 (wrap64 (Int.tmod a1 (IntKind.u64.wrap (wrap64 ((wrap64 (8 * (t201.length : Int))) - 31))))) 0)) else (some false))) else (none)) = some r := by rw [if_neg (show ¬ (false = true) by decide)] at H; exact H
        clear H
        have H := H1
        clear H1
        by_cases c12 : a0.size ≤ 9223372036854775807
        · rw [if_pos c12] at H
          have c12b0 := eq_true c12
          have c12b1 : decide (a0.size ≤ 9223372036854775807) = true := decide_eq_true c12
          try have c12b2 : (9223372036854775807 < a0.size) = False := eq_false (Nat.not_lt.2 c12)
          clear c12
          obtain ⟨y198, hy198⟩ : ∃ y_ : List Int, y_ = (bytesOf a0) := ⟨_, rfl⟩
          replace H : ((sum_Seal.f y198).bind fun t201 => (if (t201.length : Int) = (wrap64 ((a0.size : Int) + 4)) then (if (IntKind.u64.wrap (wrap64 ((wrap64 (8 * (t201.length : Int))) - 31))) = 0 then (none) else (sapwoodlaw02_SumTurned.l0 kj3 a2 t201 (wrap64 (Int.tmod a1 (IntKind.u64.wrap (wrap64 ((wrap64 (8 * (t201.length : Int))) - 31))))) 0)) else (some false))) = some r := by first | (rw [hy198]; with_reducible exact H) | (have H2_ := (Option.bind_some _ _).symm.trans H; rw [hy198]; with_reducible exact H2_) | (have H2_ := (Option.bind_some _ _).symm.trans H; with_reducible exact H2_) | with_reducible exact H | (rw [hy198]; exact H) | exact H
          have Ny198 := Aside0.mk hy198
          clear hy198
          replace H := Option.bind_eq_some_iff.mp H
          obtain ⟨t201, A130, H⟩ := H
          replace H : (if (t201.length : Int) = (wrap64 ((a0.size : Int) + 4)) then (if (IntKind.u64.wrap (wrap64 ((wrap64 (8 * (t201.length : Int))) - 31))) = 0 then (none) else (sapwoodlaw02_SumTurned.l0 kj3 a2 t201 (wrap64 (Int.tmod a1 (IntKind.u64.wrap (wrap64 ((wrap64 (8 * (t201.length : Int))) - 31))))) 0)) else (some false)) = some r := H
          have A13 := Aside0.mk A130
          clear A130
          by_cases c14 : (t201.length : Int) = (wrap64 ((a0.size : Int) + 4))
          · rw [if_pos c14] at H
            have c14b0 : ((t201.length : Int) == (wrap64 ((a0.size : Int) + 4))) = true := beq_iff_eq.mpr c14
            have c14b1 : ((t201.length : Int) != (wrap64 ((a0.size : Int) + 4))) = false := bne_eq_false_iff_eq.mpr c14
            clear c14
            by_cases c15 : (IntKind.u64.wrap (wrap64 ((wrap64 (8 * (t201.length : Int))) - 31))) = 0
            · rw [if_pos c15] at H
              exact absurd H (by simp)
            · rw [if_neg c15] at H
              have c15b0 : ((IntKind.u64.wrap (wrap64 ((wrap64 (8 * (t201.length : Int))) - 31))) == 0) = false := beq_eq_false_iff_ne.mpr c15
              have c15b1 : ((IntKind.u64.wrap (wrap64 ((wrap64 (8 * (t201.length : Int))) - 31))) != 0) = true := bne_iff_ne.mpr c15
              have H' := Aside0.mk H
              clear H
              go_wp2_with (first | ((with_reducible refine gate_dst (N := 21) rfl ?_); (try (refine gate_guard (by rfl) ?_; dsimp only)); refine Hand.V_bytes _ 5 rfl (N := 21) rfl 9 23 _ rfl a0 rfl Try.underlying9 Try.underlying23 Try.underlying5 (of_decide_eq_true (by first | (with_reducible assumption) | assumption)) (fun _ hk_ => hk_) (ok := fun k_ => wc.heap.size ≤ k_) (Below.refl _ _) (Nat.le_refl _) ?_; intro v199 w16 ho17 hb hg_ hnew_; clear hg_ hnew_; (first | rw [← Ny198.out] at ho17 | (simp only [Int.reduceToNat] at ho17; rw [← Ny198.out] at ho17)); have n0_ := Aside0.mk (Kd.V_lower (Kd.V_mono (ok' := fun k_ => True) ho17 (fun k_ hk_ => trivial)) (below_size (by repeat (first | (with_reducible first | exact HB.out | apply below_alloc | apply pw_below_drewN | apply below_drew1) | exact HB.out)))); have n1_ := Aside0.mk (below_step (by repeat (first | (with_reducible first | exact HB.out | apply below_alloc | apply pw_below_drewN | apply below_drew1) | exact HB.out)) hb); clear HB; have HO200 := n0_; have HB := n1_; clear n0_ n1_; clear hb ho17; obtain ⟨Ao18, co18, eo18⟩ := Kd.V_slice HO200.out; subst eo18) | ((with_reducible refine gate_callee (f := 14) rfl ?_); refine goesL_ (some 22) rfl rfl Try.func14 (by kernel_rfl) rfl #[.slice Ao18 y198.length co18] rfl (by (try simp only [List.map_toArray, List.map_cons, List.map_nil]); first | done | rfl | (simp only [List.length_drop, List.length_take]; rfl)) ?_; (with_reducible refine (sum_Seal.calls _ _ y198 t201 _ ?side1 ?side2 A13.out).mono ?_); (case side1 => repeat (first | exact (Kd.V_reads' HO200.out).2.2 | (with_reducible refine Kd.C_alloc ?_ _) | (with_reducible refine Kd.C_drewN ?_ _) | (with_reducible refine Kd.C_drew ?_))); (case side2 => exact (Kd.V_reads' HO200.out).2.1); rintro e w19 ⟨v202, rfl, ho0, hb⟩; refine ⟨_, rfl, ?_⟩; have n0_ := Aside0.mk (Kd.V_elder' (by (with_reducible repeat (first | apply Kd.V_alloc | apply Kd.V_drewN | apply Kd.V_drew)); exact HO200.out) (Kd.R_base ho0) hb); have n1_ := Aside0.mk (Kd.R_lower ho0 (below_size (by repeat (first | (with_reducible first | exact HB.out | apply below_alloc | apply pw_below_drewN | apply below_drew1) | exact HB.out)))); have n2_ := Aside0.mk (below_step (by repeat (first | (with_reducible first | exact HB.out | apply below_alloc | apply pw_below_drewN | apply below_drew1) | exact HB.out)) hb); clear HO200; clear HB; have HO200 := n0_; have HO203 := n1_; have HB := n2_; clear n0_ n1_ n2_; (try clear hb); (try clear hb2); (try clear hk); (try clear hi); (try clear ho0); obtain ⟨Ao20, co20, eo20⟩ := Kd.R_slice HO203.out; subst eo20))
              go_loopg [9] kj3 (fun kq v9 w' => ∃ (x7_2 : List Int) (x9_2 : Int), v9 = .int .i64 x9_2 ∧ Aside0 (sapwoodlaw02_SumTurned.l0 kq a2 x7_2 (wrap64 (Int.tmod a1 (IntKind.u64.wrap (wrap64 ((wrap64 (8 * (t201.length : Int))) - 31))))) x9_2 = some r) ∧ Aside0 (kq ≤ kj3) ∧ Aside0 (Kd.R (Kd.int .u8) 5 w' w.heap.size (fun _ => True) (.slice Ao20 t201.length co20) x7_2) ∧ Aside0 (Below w.heap.size w w'))
              case atStart => exact ⟨(t201), (0), (by first | rfl | (simp; done) | (simp [*]; done)), H', ⟨Nat.le_refl _⟩, ⟨by (with_reducible repeat (first | apply Kd.R_alloc | apply Kd.R_drewN | apply Kd.R_drew)); exact HO203.out⟩, ⟨by repeat (first | (with_reducible first | exact HB.out | apply below_alloc | apply pw_below_drewN | apply below_drew1) | exact HB.out)⟩⟩
              case round =>
                clear H'
                try clear c1
                try clear p2
                try clear c6
                try clear p6
                try clear c9
                try clear c12
                try clear c12b0
                try clear c12b1
                try clear c12b2
                try clear c14
                try clear c14b0
                try clear c14b1
                try clear c15
                try clear c15b0
                try clear c15b1
                try clear p2
                obtain ⟨x7_2, x9_2, rfl, HA, HK2, HO_7, HB⟩ := hrel
                have hl7_2 := (Kd.R_reads' HO_7.out).1
                rw [hl7_2] at HO_7
                (try simp only [hl7_2])
                cases gk with
                | zero => exact absurd HA.out (by simp [sapwoodlaw02_SumTurned.l0])
                | succ k2 =>
                  have H := HA.out
                  clear HA
                  simp only [sapwoodlaw02_SumTurned.l0] at H
                  by_cases c21 : x9_2 < 32
                  · rw [if_pos c21] at H
                    have c21b0 : decide (x9_2 < 32) = true := decide_eq_true c21
                    clear c21
                    obtain ⟨ji22, hji22⟩ : ∃ j_ : Int, (IntKind.u64.wrap (wrap64 (31 - x9_2))) = j_ := ⟨_, rfl⟩
                    replace H : (if 0 ≤ (ji22) then (if (Go.bits .and .u32 (shr .u32 a2 (ji22)) 1) = 1 then (if 0 ≤ (wrap64 (Int.tdiv (wrap64 ((wrap64 (Int.tmod a1 (IntKind.u64.wrap (wrap64 ((wrap64 (8 * (t201.length : Int))) - 31))))) + x9_2)) 8)) then (if (wrap64 (Int.tdiv (wrap64 ((wrap64 (Int.tmod a1 (IntKind.u64.wrap (wrap64 ((wrap64 (8 * (t201.length : Int))) - 31))))) + x9_2)) 8)) < (x7_2.length : Int) then (if 0 ≤ (IntKind.u64.wrap (Int.tmod (wrap64 ((wrap64 (Int.tmod a1 (IntKind.u64.wrap (wrap64 ((wrap64 (8 * (t201.length : Int))) - 31))))) + x9_2)) 8)) then (sapwoodlaw02_SumTurned.l0 k2 a2 (x7_2.set ((wrap64 (Int.tdiv (wrap64 ((wrap64 (Int.tmod a1 (IntKind.u64.wrap (wrap64 ((wrap64 (8 * (t201.length : Int))) - 31))))) + x9_2)) 8)) : Int).toNat (Go.bits .xor .u8 (rd x7_2 (wrap64 (Int.tdiv (wrap64 ((wrap64 (Int.tmod a1 (IntKind.u64.wrap (wrap64 ((wrap64 (8 * (t201.length : Int))) - 31))))) + x9_2)) 8))) (shr .u8 128 (IntKind.u64.wrap (Int.tmod (wrap64 ((wrap64 (Int.tmod a1 (IntKind.u64.wrap (wrap64 ((wrap64 (8 * (t201.length : Int))) - 31))))) + x9_2)) 8))))) (wrap64 (Int.tmod a1 (IntKind.u64.wrap (wrap64 ((wrap64 (8 * (t201.length : Int))) - 31))))) (wrap64 (x9_2 + 1))) else (none)) else (none)) else (none)) else (sapwoodlaw02_SumTurned.l0 k2 a2 x7_2 (wrap64 (Int.tmod a1 (IntKind.u64.wrap (wrap64 ((wrap64 (8 * (t201.length : Int))) - 31))))) (wrap64 (x9_2 + 1)))) else (none)) = some r := by first | (rw [hji22] at H; exact H) | (simp only [hji22] at H ⊢; exact H)
                    by_cases c23 : 0 ≤ (ji22)
                    · rw [if_pos c23] at H
                      have c23b0 := eq_true c23
                      have c23b1 : decide (0 ≤ (ji22)) = true := decide_eq_true c23
                      clear c23
                      obtain ⟨ji24, hji24⟩ : ∃ j_ : Int, (shr .u32 a2 (ji22)) = j_ := ⟨_, rfl⟩
                      replace H : (if (Go.bits .and .u32 (ji24) 1) = 1 then (if 0 ≤ (wrap64 (Int.tdiv (wrap64 ((wrap64 (Int.tmod a1 (IntKind.u64.wrap (wrap64 ((wrap64 (8 * (t201.length : Int))) - 31))))) + x9_2)) 8)) then (if (wrap64 (Int.tdiv (wrap64 ((wrap64 (Int.tmod a1 (IntKind.u64.wrap (wrap64 ((wrap64 (8 * (t201.length : Int))) - 31))))) + x9_2)) 8)) < (x7_2.length : Int) then (if 0 ≤ (IntKind.u64.wrap (Int.tmod (wrap64 ((wrap64 (Int.tmod a1 (IntKind.u64.wrap (wrap64 ((wrap64 (8 * (t201.length : Int))) - 31))))) + x9_2)) 8)) then (sapwoodlaw02_SumTurned.l0 k2 a2 (x7_2.set ((wrap64 (Int.tdiv (wrap64 ((wrap64 (Int.tmod a1 (IntKind.u64.wrap (wrap64 ((wrap64 (8 * (t201.length : Int))) - 31))))) + x9_2)) 8)) : Int).toNat (Go.bits .xor .u8 (rd x7_2 (wrap64 (Int.tdiv (wrap64 ((wrap64 (Int.tmod a1 (IntKind.u64.wrap (wrap64 ((wrap64 (8 * (t201.length : Int))) - 31))))) + x9_2)) 8))) (shr .u8 128 (IntKind.u64.wrap (Int.tmod (wrap64 ((wrap64 (Int.tmod a1 (IntKind.u64.wrap (wrap64 ((wrap64 (8 * (t201.length : Int))) - 31))))) + x9_2)) 8))))) (wrap64 (Int.tmod a1 (IntKind.u64.wrap (wrap64 ((wrap64 (8 * (t201.length : Int))) - 31))))) (wrap64 (x9_2 + 1))) else (none)) else (none)) else (none)) else (sapwoodlaw02_SumTurned.l0 k2 a2 x7_2 (wrap64 (Int.tmod a1 (IntKind.u64.wrap (wrap64 ((wrap64 (8 * (t201.length : Int))) - 31))))) (wrap64 (x9_2 + 1)))) = some r := by first | (rw [hji24] at H; exact H) | (simp only [hji24] at H ⊢; exact H)
                      have hji24_ : (a2 / 2 ^ min (ji22).toNat 32) = ji24 := hji24
                      have hji24z : (ji22) ≤ 32 → (a2 / 2 ^ (ji22).toNat) = ji24 := shr_small hji24
                      by_cases c25 : (Go.bits .and .u32 (ji24) 1) = 1
                      · rw [if_pos c25] at H
                        have c25b0 : ((Go.bits .and .u32 (ji24) 1) == 1) = true := beq_iff_eq.mpr c25
                        have c25b1 : ((Go.bits .and .u32 (ji24) 1) != 1) = false := bne_eq_false_iff_eq.mpr c25
                        clear c25
                        obtain ⟨ji26, hji26⟩ : ∃ j_ : Int, (wrap64 (Int.tdiv (wrap64 ((wrap64 (Int.tmod a1 (IntKind.u64.wrap (wrap64 ((wrap64 (8 * (t201.length : Int))) - 31))))) + x9_2)) 8)) = j_ := ⟨_, rfl⟩
                        replace H : (if 0 ≤ (ji26) then (if (ji26) < (x7_2.length : Int) then (if 0 ≤ (IntKind.u64.wrap (Int.tmod (wrap64 ((wrap64 (Int.tmod a1 (IntKind.u64.wrap (wrap64 ((wrap64 (8 * (t201.length : Int))) - 31))))) + x9_2)) 8)) then (sapwoodlaw02_SumTurned.l0 k2 a2 (x7_2.set ((ji26) : Int).toNat (Go.bits .xor .u8 (rd x7_2 (ji26)) (shr .u8 128 (IntKind.u64.wrap (Int.tmod (wrap64 ((wrap64 (Int.tmod a1 (IntKind.u64.wrap (wrap64 ((wrap64 (8 * (t201.length : Int))) - 31))))) + x9_2)) 8))))) (wrap64 (Int.tmod a1 (IntKind.u64.wrap (wrap64 ((wrap64 (8 * (t201.length : Int))) - 31))))) (wrap64 (x9_2 + 1))) else (none)) else (none)) else (none)) = some r := by first | (rw [hji26] at H; exact H) | (simp only [hji26] at H ⊢; exact H)
                        have hji26w : (IntKind.i64.wrap (Int.tdiv (wrap64 ((wrap64 (Int.tmod a1 (IntKind.u64.wrap (wrap64 ((wrap64 (8 * (t201.length : Int))) - 31))))) + x9_2)) 8)) = ji26 := (i64_w _).trans hji26
                        (try simp only [hl7_2] at hji26 hji26w)
                        by_cases c27 : 0 ≤ (ji26)
                        · rw [if_pos c27] at H
                          have c27b0 : decide (0 ≤ (ji26)) = true := decide_eq_true c27
                          clear c27
                          by_cases c28 : (ji26) < (x7_2.length : Int)
                          · rw [if_pos c28] at H
                            have c28b0 : decide ((ji26) < (x7_2.length : Int)) = true := decide_eq_true c28
                            clear c28
                            obtain ⟨ji29, hji29⟩ : ∃ j_ : Int, (IntKind.u64.wrap (Int.tmod (wrap64 ((wrap64 (Int.tmod a1 (IntKind.u64.wrap (wrap64 ((wrap64 (8 * (t201.length : Int))) - 31))))) + x9_2)) 8)) = j_ := ⟨_, rfl⟩
                            replace H : (if 0 ≤ (ji29) then (sapwoodlaw02_SumTurned.l0 k2 a2 (x7_2.set ((ji26) : Int).toNat (Go.bits .xor .u8 (rd x7_2 (ji26)) (shr .u8 128 (ji29)))) (wrap64 (Int.tmod a1 (IntKind.u64.wrap (wrap64 ((wrap64 (8 * (t201.length : Int))) - 31))))) (wrap64 (x9_2 + 1))) else (none)) = some r := by first | (rw [hji29] at H; exact H) | (simp only [hji29] at H ⊢; exact H)
                            (try simp only [hl7_2] at hji29)
                            by_cases c30 : 0 ≤ (ji29)
                            · rw [if_pos c30] at H
                              have c30b0 := eq_true c30
                              have c30b1 : decide (0 ≤ (ji29)) = true := decide_eq_true c30
                              clear c30
                              obtain ⟨ji31, hji31⟩ : ∃ j_ : Int, (shr .u8 128 (ji29)) = j_ := ⟨_, rfl⟩
                              replace H : (sapwoodlaw02_SumTurned.l0 k2 a2 (x7_2.set ((ji26) : Int).toNat (Go.bits .xor .u8 (rd x7_2 (ji26)) (ji31))) (wrap64 (Int.tmod a1 (IntKind.u64.wrap (wrap64 ((wrap64 (8 * (t201.length : Int))) - 31))))) (wrap64 (x9_2 + 1))) = some r := by first | (rw [hji31] at H; exact H) | (simp only [hji31] at H ⊢; exact H)
                              have hji31_ : (128 / 2 ^ min (ji29).toNat 8) = ji31 := hji31
                              have hji31z : (ji29) ≤ 8 → (128 / 2 ^ (ji29).toNat) = ji31 := shr_small hji31
                              obtain ⟨y205, hy205⟩ : ∃ y_ : List Int, y_ = (x7_2.set ((ji26) : Int).toNat (Go.bits .xor .u8 (rd x7_2 (ji26)) (ji31))) := ⟨_, rfl⟩
                              replace H : (sapwoodlaw02_SumTurned.l0 k2 a2 y205 (wrap64 (Int.tmod a1 (IntKind.u64.wrap (wrap64 ((wrap64 (8 * (t201.length : Int))) - 31))))) (wrap64 (x9_2 + 1))) = some r := by first | (rw [hy205]; with_reducible exact H) | (have H2_ := (Option.bind_some _ _).symm.trans H; rw [hy205]; with_reducible exact H2_) | (have H2_ := (Option.bind_some _ _).symm.trans H; with_reducible exact H2_) | with_reducible exact H | (rw [hy205]; exact H) | exact H
                              have Ny205 := Aside0.mk hy205
                              clear hy205
                              have H' := Aside0.mk H
                              clear H
                              have p204 : 0 ≤ ((ji26) : Int) := of_decide_eq_true (by first | (with_reducible assumption) | assumption)
                              have q204 : (ji26) < (x7_2.length : Int) := of_decide_eq_true (by first | (with_reducible assumption) | assumption)
                              obtain ⟨ad204, e204, hx204_0⟩ := Kd.at_int (Kd.R_reads' HO_7.out).2.2 (ji26) p204 q204
                              cases e204
                              replace p204 := eq_true p204
                              replace q204 := eq_true q204
                              have p32 : 0 ≤ ((ji26) : Int) := of_decide_eq_true (by first | (with_reducible assumption) | assumption)
                              have q32 : ((ji26) : Int) < ((x7_2.length : Int) : Int) := of_decide_eq_true (by first | (with_reducible assumption) | assumption)
                              obtain ⟨go32, co32, eo32, gb32, gl32, cl32, HG32⟩ := Kd.R_form HO_7.out (by omega)
                              (first | cases eo32 | (injection eo32 with ea_ en_ ec_; (first | subst ea_ | (injection ea_ with ea_; subst ea_)); subst ec_; clear en_))
                              have GB32 := Aside0.mk gb32
                              have GG32 := Aside0.mk HG32
                              clear gb32 gl32 HG32
                              (first | simp only [add_plain] at hx204_0 | skip)
                              obtain ⟨hx32_0, hf32_0⟩ := Kd.R_celln 0 HO_7.out ((ji26) : Int) p32 q32
                              replace p32 := eq_true p32
                              replace q32 := eq_true q32
                              have HP33 := Kd.R_putg HO_7.out ((ji26) : Int) (Go.bits .xor .u8 (rd x7_2 (ji26)) (ji31))
                              go_wp2_with (first | ((with_reducible refine gate_store (t := 5) (p := 62) rfl ?_); refine store_event (t := 5) (p := 62) (v := ?vo_w34) (w1 := (wr.setCell ⟨go32, ((ji26) : Int).toNat, none⟩ (.int .u8 (Go.bits .xor .u8 (rd x7_2 (ji26)) (ji31))))) ?hg ?ho ?hn ?hr ?_; (case ho => rfl); (case hg => rfl); (case hn => rfl); (case hr => first | (go_simp; done) | (go_simp; rfl)); intro w34 hw; have hg : wr.grownBy w34 (some go32) := (by rw [hw]; exact HP33.2); have hp_ : Kd.R (Kd.int .u8) 5 w34 w.heap.size (fun _ => True) (.slice (some ⟨go32, 0, none⟩) x7_2.length co20) y205 := (by rw [hw, Ny205.out]; exact HP33.1); clear HP33; have n0_ := Aside0.mk (hp_); have n1_ := Aside0.mk ((by rw [hw]; exact below_set (HB.out) GB32.out : Below w.heap.size w w34)); clear HO_7; clear HB; have HO_7 := n0_; have HB := n1_; clear n0_ n1_; clear hg hw hp_))
                              (try simp only [← hl7_2])
                              go_roundg k2
                              case measure => have := HJ3.out; have := HK2.out; omega
                              case rel => exact ⟨(y205), (wrap64 (x9_2 + 1)), (by first | rfl | (simp; done) | (simp [*]; done)), H', ⟨by have := HJ3.out; have := HK2.out; omega⟩, ⟨by (try simp only [hl7_2]); (with_reducible repeat (first | apply Kd.R_alloc | apply Kd.R_drewN | apply Kd.R_drew)); exact HO_7.out⟩, ⟨by repeat (first | (with_reducible first | exact HB.out | apply below_alloc | apply pw_below_drewN | apply below_drew1) | exact HB.out)⟩⟩
                            · rw [if_neg c30] at H
                              exact absurd H (by simp)
                          · rw [if_neg c28] at H
                            exact absurd H (by simp)
                        · rw [if_neg c27] at H
                          exact absurd H (by simp)
                      · rw [if_neg c25] at H
                        have c25b0 : ((Go.bits .and .u32 (ji24) 1) == 1) = false := beq_eq_false_iff_ne.mpr c25
                        have c25b1 : ((Go.bits .and .u32 (ji24) 1) != 1) = true := bne_iff_ne.mpr c25
                        have H' := Aside0.mk H
                        clear H
                        go_wp2
                        (try simp only [← hl7_2])
                        go_roundg k2
                        case measure => have := HJ3.out; have := HK2.out; omega
                        case rel => exact ⟨(x7_2), (wrap64 (x9_2 + 1)), (by first | rfl | (simp; done) | (simp [*]; done)), H', ⟨by have := HJ3.out; have := HK2.out; omega⟩, ⟨by (try simp only [hl7_2]); (with_reducible repeat (first | apply Kd.R_alloc | apply Kd.R_drewN | apply Kd.R_drew)); exact HO_7.out⟩, ⟨by repeat (first | (with_reducible first | exact HB.out | apply below_alloc | apply pw_below_drewN | apply below_drew1) | exact HB.out)⟩⟩
                    · rw [if_neg c23] at H
                      exact absurd H (by simp)
                  · rw [if_neg c21] at H
                    have c21b0 : decide (x9_2 < 32) = false := decide_eq_false c21
                    clear c21
                    replace H := Option.bind_eq_some_iff.mp H
                    obtain ⟨⟨t206, t207⟩, A350, H⟩ := H
                    replace H : (if (t207 == (a2 == 0)) = true then (if t207 = true then (some true) else (some ((t206.length : Int) == 0))) else (some false)) = some r := H
                    have A35 := Aside0.mk A350
                    clear A350
                    by_cases c36 : (t207 == (a2 == 0)) = true
                    · rw [if_pos c36] at H
                      have c36b0 : (t207 == (a2 == 0)) = true := c36
                      (try (have c36b1 : decide (t207 = (a2 == 0)) = true := by simpa using c36))
                      (try (have c36b2 : (t207 == (a2 == 0)) = true := by simpa using c36))
                      clear c36
                      by_cases c37 : t207 = true
                      · subst c37
                        have H1 : (some true) = some r := by rw [if_pos rfl] at H; exact H
                        clear H
                        have H := H1
                        clear H1
                        obtain rfl := Option.some.inj H
                        go_wp2_with (first | ((with_reducible refine gate_callee (f := 11) rfl ?_); refine goesL_ (some 65) rfl rfl Try.func11 (by kernel_rfl) rfl #[.slice Ao20 x7_2.length co20] rfl (by (try simp only [List.map_toArray, List.map_cons, List.map_nil]); first | done | rfl | (simp only [List.length_drop, List.length_take]; rfl)) ?_; (with_reducible refine (sum_Open.calls k2 _ _ x7_2 t206 true _ ?side1 ?side2 A35.out).mono ?_); (case side1 => repeat (first | exact (Kd.R_reads' HO_7.out).2.2 | (with_reducible refine Kd.C_alloc ?_ _) | (with_reducible refine Kd.C_drewN ?_ _) | (with_reducible refine Kd.C_drew ?_))); (case side2 => exact (Kd.R_reads' HO_7.out).2.1); rintro e w38 ⟨v208, rfl, ho0, hb⟩; refine ⟨_, rfl, ?_⟩; have n0_ := Aside0.mk (Kd.R_elder' (by (with_reducible repeat (first | apply Kd.R_alloc | apply Kd.R_drewN | apply Kd.R_drew)); exact HO_7.out) (Kd.R_base ho0) hb); have n1_ := Aside0.mk (Kd.R_lower (Kd.R_new' ho0 (Kd.R_lt (by (with_reducible repeat (first | apply Kd.R_alloc | apply Kd.R_drewN | apply Kd.R_drew)); exact HO_7.out))) (below_size (by repeat (first | (with_reducible first | exact HB.out | apply below_alloc | apply pw_below_drewN | apply below_drew1) | exact HB.out)))); have n2_ := Aside0.mk (below_step (by repeat (first | (with_reducible first | exact HB.out | apply below_alloc | apply pw_below_drewN | apply below_drew1) | exact HB.out)) hb); clear HO_7; clear HB; have HO_7 := n0_; have HO209 := n1_; have HB := n2_; clear n0_ n1_ n2_; (try clear hb); (try clear hb2); (try clear hk); (try clear hi); (try clear ho0)))
                        go_ret
                        exact ⟨by first | rfl | (simp [errW_none, errW_some] <;> rfl) | (simp [*, errW_none, errW_some] <;> rfl), by repeat (first | (with_reducible first | exact HB.out | apply below_alloc | apply pw_below_drewN | apply below_drew1) | exact HB.out)⟩
                      · replace c37 := Bool.eq_false_iff.mpr c37
                        subst c37
                        have H1 : (some ((t206.length : Int) == 0)) = some r := by rw [if_neg (show ¬ (false = true) by decide)] at H; exact H
                        clear H
                        have H := H1
                        clear H1
                        obtain rfl := Option.some.inj H
                        go_wp2_with (first | ((with_reducible refine gate_callee (f := 11) rfl ?_); refine goesL_ (some 65) rfl rfl Try.func11 (by kernel_rfl) rfl #[.slice Ao20 x7_2.length co20] rfl (by (try simp only [List.map_toArray, List.map_cons, List.map_nil]); first | done | rfl | (simp only [List.length_drop, List.length_take]; rfl)) ?_; (with_reducible refine (sum_Open.calls k2 _ _ x7_2 t206 false _ ?side1 ?side2 A35.out).mono ?_); (case side1 => repeat (first | exact (Kd.R_reads' HO_7.out).2.2 | (with_reducible refine Kd.C_alloc ?_ _) | (with_reducible refine Kd.C_drewN ?_ _) | (with_reducible refine Kd.C_drew ?_))); (case side2 => exact (Kd.R_reads' HO_7.out).2.1); rintro e w39 ⟨v208, rfl, ho0, hb⟩; refine ⟨_, rfl, ?_⟩; have n0_ := Aside0.mk (Kd.R_elder' (by (with_reducible repeat (first | apply Kd.R_alloc | apply Kd.R_drewN | apply Kd.R_drew)); exact HO_7.out) (Kd.R_base ho0) hb); have n1_ := Aside0.mk (Kd.R_lower (Kd.R_new' ho0 (Kd.R_lt (by (with_reducible repeat (first | apply Kd.R_alloc | apply Kd.R_drewN | apply Kd.R_drew)); exact HO_7.out))) (below_size (by repeat (first | (with_reducible first | exact HB.out | apply below_alloc | apply pw_below_drewN | apply below_drew1) | exact HB.out)))); have n2_ := Aside0.mk (below_step (by repeat (first | (with_reducible first | exact HB.out | apply below_alloc | apply pw_below_drewN | apply below_drew1) | exact HB.out)) hb); clear HO_7; clear HB; have HO_7 := n0_; have HO209 := n1_; have HB := n2_; clear n0_ n1_ n2_; (try clear hb); (try clear hb2); (try clear hk); (try clear hi); (try clear ho0); obtain ⟨Ao40, co40, eo40⟩ := Kd.R_slice HO209.out; subst eo40))
                        go_ret
                        exact ⟨by first | rfl | (simp [errW_none, errW_some] <;> rfl) | (simp [*, errW_none, errW_some] <;> rfl), by repeat (first | (with_reducible first | exact HB.out | apply below_alloc | apply pw_below_drewN | apply below_drew1) | exact HB.out)⟩
                    · rw [if_neg c36] at H
                      have c36b0 : (t207 == (a2 == 0)) = false := by simpa using c36
                      (try (have c36b1 : decide (t207 = (a2 == 0)) = false := by simpa using c36))
                      (try (have c36b2 : (t207 == (a2 == 0)) = false := by simpa using c36))
                      (try (have c36b3 : ¬ (t207 = (a2 == 0)) := by simpa using c36))
                      clear c36
                      obtain rfl := Option.some.inj H
                      go_wp2_with (first | ((with_reducible refine gate_callee (f := 11) rfl ?_); refine goesL_ (some 65) rfl rfl Try.func11 (by kernel_rfl) rfl #[.slice Ao20 x7_2.length co20] rfl (by (try simp only [List.map_toArray, List.map_cons, List.map_nil]); first | done | rfl | (simp only [List.length_drop, List.length_take]; rfl)) ?_; (with_reducible refine (sum_Open.calls k2 _ _ x7_2 t206 t207 _ ?side1 ?side2 A35.out).mono ?_); (case side1 => repeat (first | exact (Kd.R_reads' HO_7.out).2.2 | (with_reducible refine Kd.C_alloc ?_ _) | (with_reducible refine Kd.C_drewN ?_ _) | (with_reducible refine Kd.C_drew ?_))); (case side2 => exact (Kd.R_reads' HO_7.out).2.1); rintro e w41 ⟨v208, rfl, ho0, hb⟩; refine ⟨_, rfl, ?_⟩; have n0_ := Aside0.mk (Kd.R_elder' (by (with_reducible repeat (first | apply Kd.R_alloc | apply Kd.R_drewN | apply Kd.R_drew)); exact HO_7.out) (Kd.R_base ho0) hb); have n1_ := Aside0.mk (Kd.R_lower (Kd.R_new' ho0 (Kd.R_lt (by (with_reducible repeat (first | apply Kd.R_alloc | apply Kd.R_drewN | apply Kd.R_drew)); exact HO_7.out))) (below_size (by repeat (first | (with_reducible first | exact HB.out | apply below_alloc | apply pw_below_drewN | apply below_drew1) | exact HB.out)))); have n2_ := Aside0.mk (below_step (by repeat (first | (with_reducible first | exact HB.out | apply below_alloc | apply pw_below_drewN | apply below_drew1) | exact HB.out)) hb); clear HO_7; clear HB; have HO_7 := n0_; have HO209 := n1_; have HB := n2_; clear n0_ n1_ n2_; (try clear hb); (try clear hb2); (try clear hk); (try clear hi); (try clear ho0)))
                      go_ret
                      exact ⟨by first | rfl | (simp [errW_none, errW_some] <;> rfl) | (simp [*, errW_none, errW_some] <;> rfl), by repeat (first | (with_reducible first | exact HB.out | apply below_alloc | apply pw_below_drewN | apply below_drew1) | exact HB.out)⟩
          · rw [if_neg c14] at H
            have c14b0 : ((t201.length : Int) == (wrap64 ((a0.size : Int) + 4))) = false := beq_eq_false_iff_ne.mpr c14
            have c14b1 : ((t201.length : Int) != (wrap64 ((a0.size : Int) + 4))) = true := bne_iff_ne.mpr c14
            obtain rfl := Option.some.inj H
            go_wp2_with (first | ((with_reducible refine gate_dst (N := 21) rfl ?_); (try (refine gate_guard (by rfl) ?_; dsimp only)); refine Hand.V_bytes _ 5 rfl (N := 21) rfl 9 23 _ rfl a0 rfl Try.underlying9 Try.underlying23 Try.underlying5 (of_decide_eq_true (by first | (with_reducible assumption) | assumption)) (fun _ hk_ => hk_) (ok := fun k_ => wc.heap.size ≤ k_) (Below.refl _ _) (Nat.le_refl _) ?_; intro v199 w42 ho43 hb hg_ hnew_; clear hg_ hnew_; (first | rw [← Ny198.out] at ho43 | (simp only [Int.reduceToNat] at ho43; rw [← Ny198.out] at ho43)); have n0_ := Aside0.mk (Kd.V_lower (Kd.V_mono (ok' := fun k_ => True) ho43 (fun k_ hk_ => trivial)) (below_size (by repeat (first | (with_reducible first | exact HB.out | apply below_alloc | apply pw_below_drewN | apply below_drew1) | exact HB.out)))); have n1_ := Aside0.mk (below_step (by repeat (first | (with_reducible first | exact HB.out | apply below_alloc | apply pw_below_drewN | apply below_drew1) | exact HB.out)) hb); clear HB; have HO200 := n0_; have HB := n1_; clear n0_ n1_; clear hb ho43; obtain ⟨Ao44, co44, eo44⟩ := Kd.V_slice HO200.out; subst eo44) | ((with_reducible refine gate_callee (f := 14) rfl ?_); refine goesL_ (some 22) rfl rfl Try.func14 (by kernel_rfl) rfl #[.slice Ao44 y198.length co44] rfl (by (try simp only [List.map_toArray, List.map_cons, List.map_nil]); first | done | rfl | (simp only [List.length_drop, List.length_take]; rfl)) ?_; (with_reducible refine (sum_Seal.calls _ _ y198 t201 _ ?side1 ?side2 A13.out).mono ?_); (case side1 => repeat (first | exact (Kd.V_reads' HO200.out).2.2 | (with_reducible refine Kd.C_alloc ?_ _) | (with_reducible refine Kd.C_drewN ?_ _) | (with_reducible refine Kd.C_drew ?_))); (case side2 => exact (Kd.V_reads' HO200.out).2.1); rintro e w45 ⟨v202, rfl, ho0, hb⟩; refine ⟨_, rfl, ?_⟩; have n0_ := Aside0.mk (Kd.V_elder' (by (with_reducible repeat (first | apply Kd.V_alloc | apply Kd.V_drewN | apply Kd.V_drew)); exact HO200.out) (Kd.R_base ho0) hb); have n1_ := Aside0.mk (Kd.R_lower ho0 (below_size (by repeat (first | (with_reducible first | exact HB.out | apply below_alloc | apply pw_below_drewN | apply below_drew1) | exact HB.out)))); have n2_ := Aside0.mk (below_step (by repeat (first | (with_reducible first | exact HB.out | apply below_alloc | apply pw_below_drewN | apply below_drew1) | exact HB.out)) hb); clear HO200; clear HB; have HO200 := n0_; have HO203 := n1_; have HB := n2_; clear n0_ n1_ n2_; (try clear hb); (try clear hb2); (try clear hk); (try clear hi); (try clear ho0); obtain ⟨Ao46, co46, eo46⟩ := Kd.R_slice HO203.out; subst eo46))
            go_ret
            exact ⟨by first | rfl | (simp [errW_none, errW_some] <;> rfl) | (simp [*, errW_none, errW_some] <;> rfl), by repeat (first | (with_reducible first | exact HB.out | apply below_alloc | apply pw_below_drewN | apply below_drew1) | exact HB.out)⟩
        · rw [if_neg c12] at H
          exact absurd H (by simp)

/-- THE ONE PURE STATEMENT of sapwoodlaw02_SumTurned: yours. -/
def sapwoodlaw02_SumTurned.Pure : Prop := ∀ (a0 : ByteArray) (a1 : Int) (a2 : Int), a0.size ≤ 140737488351232 → (Lit.int .u64 a1).wf = true → (Lit.int .u32 a2).wf = true → ∃ k, sapwoodlaw02_SumTurned.f k a0 a1 a2 = some true
theorem sapwoodlaw02_SumTurned.walk (P : sapwoodlaw02_SumTurned.Pure) (a0 : ByteArray) (a1 : Int) (a2 : Int) (w : World) (w0 : a0.size ≤ 140737488351232) (w1 : (Lit.int .u64 a1).wf = true) (w2 : (Lit.int .u32 a2).wf = true) :
    Calls Try.prog 6 #[.string a0, .int .u64 a1, .int .u32 a2] w fun e w' => e = .returned (.bool true) ∧ Below w.heap.size w w' := by
  obtain ⟨k, h⟩ := P a0 a1 a2 w0 w1 w2
  refine (sapwoodlaw02_SumTurned.calls k a0 a1 a2 true w h).mono ?_
  rintro e w' ⟨rfl, hd⟩
  exact ⟨rfl, hd⟩

-- NOT PRINTED: function 7 (sapwoodlaw02_SumKeeps)

end Go.Proofs.Ytcjifdgbammocaa.Sp
