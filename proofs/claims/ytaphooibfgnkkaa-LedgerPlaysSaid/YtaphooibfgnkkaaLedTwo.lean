/- The walk of LedgerTwo. -/
import Derived.Test.YtaphooibfgnkkaaLedAwake
namespace Go.Proofs.Ytaphooibfgnkkaa.Hand
open Go.RowKit Go.Proofs.YtaphooibfgnkkaaW.PrintWords Go.Proofs.YtaphooibfgnkkaaW.PrintLast Go.Proofs.YtaphooibfgnkkaaW.PrintMore
set_option linter.unusedVariables false
set_option linter.unusedSimpArgs false
theorem commit_0 {w : World} {g n : Nat} {O N T : Marks} (h : Lg w g n O N T) : Calls Try.prog 10 #[.pointer (some ⟨g, 0, none⟩), .slice none 0 0] w (SetOut w g n N (setF []) none_) :=
  commit_any (A := none) (c := 0) (l := []) h (Kd.C_nil _ _) (by simp)
theorem freeN_congr {U V : Nat → Bool} : ∀ n, (∀ k, k < n → U k = V k) → freeN U n = freeN V n
  | 0, _ => rfl
  | n + 1, h => by rw [freeN, freeN, freeN_congr n (fun k hk => h k (by omega)), h n (by omega)]
theorem setF_nil (j : Nat) : setF [] j = false := by simp [setF]
theorem two_same (l : List Int) (n : Nat) : freeN (usedB none_ (setF l) none_) n = freeN (usedB (setF l) (setF []) none_) n := freeN_congr n fun k _ => by simp [usedB, none_, setF_nil]
theorem two_62 : freeN (usedB (setF []) (setF []) none_) 64 = 62 := by decide
theorem two_in (l : List Int) (k : Nat) (hk : k < l.length) (h0 : 0 ≤ l.getD k 0) (h1 : l.getD k 0 < 64) : useI 64 (setF l) (setF []) none_ (l.getD k 0) = true := by
  have hm : l.getD k 0 ∈ l := by rw [List.getD_eq_getElem?_getD, List.getElem?_eq_getElem hk]; exact List.getElem_mem hk
  generalize l.getD k 0 = x at h0 h1 hm
  obtain ⟨x, rfl⟩ := Int.eq_ofNat_of_zero_le h0
  unfold useI usedB
  rw [decide_eq_true h0, decide_eq_true (show (x : Int) < (64 : Nat) by omega), Int.toNat_natCast]
  simp [setF, hm]
def TwoRel (l : List Int) (i : Value) : Prop := ∃ k : Nat, k ≤ l.length ∧ i = .int .i64 (k : Int)
set_option maxHeartbeats 2000000 in
theorem two_walk {w : World} {A : Option Addr} {c : Nat} {l : List Int} (hC : (Kd.int .i64).C w A l.length l) (hl : l.length ≤ 140737488355328) :
    Calls Try.prog 3 #[.slice A l.length c] w fun e w' => e = .returned (.bool true) ∧ Below w.heap.size w w' := by
  have HC := Aside0.mk hC
  clear hC
  by_cases h1 : l.length ≤ 300
  · have t1 : decide (300 < (l.length : Int)) = false := decide_eq_false (by omega)
    have HN := Aside0.mk (fun W => new_any 64 W 64 (Or.inr (Or.inr ⟨rfl, by omega⟩)))
    go_enter Try.func3, Try.ntmps3
    go_wp2_with (first | (go_at_call 8; refine (awake_true _).mono ?_; rintro e w1 ⟨rfl, hb⟩; have HB1 := Aside0.mk hb; clear hb) | (go_at_call 9; refine (HN.out _).mono ?_; rintro e w2 ⟨rfl, hb, hl⟩; have HB2 := Aside0.mk (below_step HB1.out hb); have HL2 := Aside0.mk hl; have HG : Aside0 (w.heap.size ≤ w1.heap.size) := ⟨HB1.out.size⟩; clear hb hl) | (go_at_call 10; have _q := HL5; refine (commit_0 HL5.out).mono ?_; rintro e w7 ⟨rfl, ho, hl⟩; have HB7 := Aside0.mk (ho.below HB5.out HG.out HB5.out.size); have HL7 := Aside0.mk hl; clear ho hl) | (go_at_call 10; have _q := HL3; refine (commit_0 HL3.out).mono ?_; rintro e w5 ⟨rfl, ho, hl⟩; have HB5 := Aside0.mk (ho.below HB3.out HG.out HB3.out.size); have HL5 := Aside0.mk hl; clear ho hl) | (go_at_call 10; refine (commit_any (c := c) HL2.out (Kd.C_below HC.out HB2.out) hl).mono ?_; rintro e w3 ⟨rfl, ho, hl⟩; have HB3 := Aside0.mk (ho.below HB2.out HG.out HB2.out.size); have HL3 := Aside0.mk hl; clear ho hl) | (go_at_call 11; have _q := HL5; refine (free_any HL5.out).mono ?_; rintro e w6 ⟨rfl, rfl⟩) | (go_at_call 11; refine (free_any HL3.out).mono ?_; rw [two_same]; rintro e w4 ⟨rfl, rfl⟩))
    generalize freeN (usedB (setF l) (setF []) none_) 64 = fr
    go_loop [6, 29] (fun _ i => TwoRel l i) (fun _ i => l.length - (intOf i).toNat)
    case atStart => exact ⟨0, Nat.zero_le _, rfl⟩
    case round =>
      obtain ⟨k, hk, rfl⟩ := hrel
      by_cases hlt : k < l.length
      · obtain ⟨ad, hA, hcell⟩ := (Kd.reads_of_C (enc := Value.int .i64) (d := (0 : Int)) (h1 := fun _ => rfl) (Kd.C_below HC.out HB5.out)).2.2 (by omega)
        subst hA
        have hk' := hcell k hlt
        clear hcell
        have HI : Aside0 (0 ≤ l.getD k 0 → l.getD k 0 < 64 → useI 64 (setF l) (setF []) none_ (l.getD k 0) = true) := ⟨two_in l k hlt⟩
        generalize l.getD k 0 = x at hk' HI
        by_cases x0 : x < 0
        · have z1 : decide (0 ≤ x) = false := decide_eq_false (by omega)
          clear x0
          go_wp2
          go_round
          case rel => exact ⟨k + 1, by omega, by go_num⟩
          case measure => simp [intOf]; omega
        · have z1 : decide (0 ≤ x) = true := decide_eq_true (by omega)
          by_cases x1 : 64 ≤ x
          · have z2 : decide (x < 64) = false := decide_eq_false (by omega)
            clear x0 x1
            go_wp2
            go_round
            case rel => exact ⟨k + 1, by omega, by go_num⟩
            case measure => simp [intOf]; omega
          · have z2 : decide (x < 64) = true := decide_eq_true (by omega)
            have HI2 := Aside0.mk (HI.out (by omega) (by omega))
            clear x0 x1
            go_wp2_with (go_at_call 12; refine (use_any HL5.out _).mono ?_; rw [HI2.out]; rintro e w7 ⟨rfl, rfl⟩)
            go_round
            case rel => exact ⟨k + 1, by omega, by go_num⟩
            case measure => simp [intOf]; omega
      · go_wp2_with (first | (go_at_call 10; refine (commit_0 HL5.out).mono ?_; rintro e w7 ⟨rfl, ho, hl⟩; have HB7 := Aside0.mk (ho.below HB5.out HG.out HB5.out.size); have HL7 := Aside0.mk hl; clear ho hl) | (go_at_call 11; refine (free_any HL7.out).mono ?_; rw [two_62]; rintro e w8 ⟨rfl, rfl⟩))
        go_ret
        exact ⟨rfl, HB7.out⟩
  · have t1 : decide (300 < (l.length : Int)) = true := decide_eq_true (by omega)
    go_enter Try.func3, Try.ntmps3
    go_wp2_with (first | (go_at_call 8; refine (awake_true _).mono ?_; rintro e w1 ⟨rfl, hb⟩; (first | (have n_ := Aside0.mk (below_step HB.out hb); clear HB; have HB := n_; clear n_) | have HB := Aside0.mk hb); clear hb))
    go_ret
    exact ⟨rfl, HB.out⟩
end Go.Proofs.Ytaphooibfgnkkaa.Hand
