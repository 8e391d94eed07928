/- The walk of FixStops. -/
import Derived.Test.YtnidooobefoahaaDoes
import Derived.Test.YtnidooobefoahaaOps
namespace Go.Proofs.Ytnidooobefoahaa.Hand
open Go.RowKit Go.Proofs.Ytnidooobefoahaa.Sp Go.Proofs.Ytnidooobefoahaa.Pure Go.Proofs.Ytnidooobefoahaa.OpenOp Go.Proofs.YtnidooobefoahaaW.PrintWords Go.Proofs.YtnidooobefoahaaW.PrintLast Go.Proofs.YtnidooobefoahaaW.PrintMore
set_option linter.unusedVariables false
set_option linter.unusedSimpArgs false

theorem opStep_err (l : List Int) (s : RS) (k n : Int) (he : s.e ≠ 0) : opStep l s k n = (false, s) := by
  have hb : ∀ m, rBytes l s m = ([], s) := fun m => by unfold rBytes; rw [if_pos he]
  have hn : ∀ m, rNum l s m = (0, s) := fun m => by unfold rNum; rw [hb]; rfl
  have ht : rText l s n = ([], s) := by unfold rText; rw [hn]; simp only; rw [if_neg (fun h => he h.1), hb]
  have hz : rZero l s = s := by unfold rZero; rw [if_pos he]
  have h0 : (strOfNums []).toList.isEmpty = true := by rw [show strOfNums [] = ByteArray.empty from rfl, ByteArray.toList_empty]; rfl
  unfold opStep
  rw [hn, hn, hn, ht, hz]
  simp only [h0]
  repeat' split
  all_goals rfl
def StopRel (w : World) (bs g : Nat) (l : List Int) (n : Nat) (i : Value) (wr : World) : Prop := ∃ (k : Nat) (s : RS), k ≤ n ∧ i = .int .i64 (k : Int) ∧ Rd wr bs g l s ∧ Below w.heap.size w wr
def StopRel2 (w : World) (bs g : Nat) (l : List Int) (s : RS) (n : Nat) (i : Value) (wr : World) : Prop := ∃ k : Nat, k ≤ n ∧ i = .int .i64 (k : Int) ∧ Rd wr bs g l s ∧ Below w.heap.size w wr
set_option maxHeartbeats 2000000 in
theorem fixStops_walk (s : ByteArray) (A1 A2 : Option Addr) (c1 c2 : Nat) (l1 l2 : List (Int × Int)) (w : World) (hs : s.size ≤ 140737488351232)
    (hC1 : Kd.C kOp w A1 l1.length l1) (hC2 : Kd.C kOp w A2 l2.length l2) : Calls Try.prog 8 #[.string s, .slice A1 l1.length c1, .slice A2 l2.length c2] w fun e w' => e = .returned (.bool true) ∧ Below w.heap.size w w' := by
  have HC1 := Aside0.mk hC1
  have HC2 := Aside0.mk hC2
  clear hC1 hC2
  have hcv := cvb_run s
  by_cases h1 : l1.length ≤ 300
  · by_cases h2 : l2.length ≤ 300
    · have t1 : decide (300 < (l1.length : Int)) = false := decide_eq_false (by omega)
      have t2 : decide (300 < (l2.length : Int)) = false := decide_eq_false (by omega)
      go_enter Try.func8, Try.ntmps8
      go_wp2_with (first | (go_at_call 10; refine (awake_true _).mono ?_; rintro e w1 ⟨rfl, hb⟩; have HB := Aside0.mk hb; clear hb) | (go_at_call 16; refine (Read_any (cvb_reads s (by omega) _) (cvb_cap s _) (by rw [bytesOf_length]; omega) (bytesOf_by s)).mono ?_; rintro e w2 ⟨g, rfl, hb, hr⟩; have HB2 := Aside0.mk (below_step (cvb_below s HB.out HB.out.size) hb); obtain ⟨bs, hbs, hr'⟩ : ∃ bs, w.heap.size ≤ bs ∧ Rd w2 bs g (bytesOf s) ⟨0, 0⟩ := ⟨_, (cvb_below s HB.out HB.out.size).size, hr⟩; have HR := Aside0.mk hr'; have HS := Aside0.mk hbs; clear hb hr hr' hbs))
      go_loopw [8, 30] (fun _ i wr => StopRel w bs g (bytesOf s) l1.length i wr) (fun _ i _ => l1.length - (intOf i).toNat)
      case atStart => exact ⟨0, _, Nat.zero_le _, rfl, HR.out, HB2.out⟩
      case round =>
        obtain ⟨k, s', hk, rfl, hr, hb⟩ := hrel
        by_cases hlt : k < l1.length
        · obtain ⟨ad, rfl, hc0, hc1⟩ := op_cells (Kd.C_below HC1.out hb) hlt
          have HR2 := Aside0.mk hr
          have HB3 := Aside0.mk hb
          clear hr hb
          go_wp2_with (go_at_call 27; refine (does_rd _ _ HR2.out).mono ?_; rintro e w3 ⟨rfl, ho, hr⟩; have HO := Aside0.mk ho; have HR3 := Aside0.mk hr; clear ho hr)
          go_roundw
          case rel => exact ⟨k + 1, _, by omega, by go_num, HR3.out, HO.out.below HB3.out (Nat.le_trans HS.out HR2.out.base) HB3.out.size⟩
          case measure => simp [intOf]; omega
        · obtain ⟨p, e⟩ := s'
          have hp := hr.at_
          simp only at hp
          rw [bytesOf_length] at hp
          have hp1 : decide (p ≤ s.size) = true := decide_eq_true hp
          have HR2 := Aside0.mk hr
          have HB3 := Aside0.mk hb
          clear hr hb
          by_cases he : e = 0
          · have he1 : (e == 0) = true := by rw [he]; rfl
            clear he
            go_wp2_with (first | (go_at_call 22; refine (Err_rd HR2.out).mono ?_; rintro e w2 ⟨rfl, rfl⟩) | (go_at_call 23; refine (At_rd HR2.out).mono ?_; rintro e w2 ⟨rfl, rfl⟩))
            go_ret
            exact ⟨rfl, HB3.out⟩
          · have he1 : (e == 0) = false := beq_eq_false_iff_ne.2 he
            have HE := Aside0.mk he
            clear he
            go_wp2_with (first | (go_at_call 22; refine (Err_rd HR2.out).mono ?_; rintro e w2 ⟨rfl, rfl⟩) | (go_at_call 23; refine (At_rd HR2.out).mono ?_; rintro e w2 ⟨rfl, rfl⟩))
            go_loopw [11, 52] (fun _ i wr => StopRel2 w bs g (bytesOf s) ⟨p, e⟩ l2.length i wr) (fun _ i _ => l2.length - (intOf i).toNat)
            case atStart => exact ⟨0, Nat.zero_le _, rfl, HR2.out, HB3.out⟩
            case round =>
              obtain ⟨k, hk, rfl, hr, hb⟩ := hrel
              have HR4 := Aside0.mk hr
              have HB4 := Aside0.mk hb
              by_cases hlt : k < l2.length
              · obtain ⟨ad, rfl, hc0, hc1⟩ := op_cells (Kd.C_below HC2.out hb) hlt
                clear hr hb
                have hne1 : (e != e) = false := by simp
                have hne2 : ((p : Int) != (p : Int)) = false := by simp
                go_wp2_with (first | (go_at_call 27; refine (does_rd _ _ HR4.out).mono ?_; rw [opStep_err _ _ _ _ HE.out]; rintro e w3 ⟨rfl, ho, hr⟩; have HO := Aside0.mk ho; have HR5 := Aside0.mk hr; clear ho hr) | (go_at_call 22; refine (Err_rd HR5.out).mono ?_; rintro e w2 ⟨rfl, rfl⟩) | (go_at_call 23; refine (At_rd HR5.out).mono ?_; rintro e w2 ⟨rfl, rfl⟩))
                go_roundw
                case rel => exact ⟨k + 1, by omega, by go_num, HR5.out, HO.out.below HB4.out (Nat.le_trans HS.out HR4.out.base) HB4.out.size⟩
                case measure => simp [intOf]; omega
              · clear hr hb
                go_wp2
                go_ret
                exact ⟨rfl, HB4.out⟩
    · have t1 : decide (300 < (l1.length : Int)) = false := decide_eq_false (by omega)
      have t2 : decide (300 < (l2.length : Int)) = true := decide_eq_true (by omega)
      go_enter Try.func8, Try.ntmps8
      go_wp2_with (first | (go_at_call 10; refine (awake_true _).mono ?_; rintro e w1 ⟨rfl, hb⟩; (first | (have n_ := Aside0.mk (below_step HB.out hb); clear HB; have HB := n_; clear n_) | have HB := Aside0.mk hb); clear hb))
      go_ret
      exact ⟨rfl, HB.out⟩
  · have t1 : decide (300 < (l1.length : Int)) = true := decide_eq_true (by omega)
    go_enter Try.func8, Try.ntmps8
    go_wp2_with (first | (go_at_call 10; refine (awake_true _).mono ?_; rintro e w1 ⟨rfl, hb⟩; (first | (have n_ := Aside0.mk (below_step HB.out hb); clear HB; have HB := n_; clear n_) | have HB := Aside0.mk hb); clear hb))
    go_ret
    exact ⟨rfl, HB.out⟩
end Go.Proofs.Ytnidooobefoahaa.Hand
