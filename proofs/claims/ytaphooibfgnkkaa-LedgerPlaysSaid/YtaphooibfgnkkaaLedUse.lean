/- The ledger, call by call: size, InUse, Free, Take. -/
import Derived.Test.YtaphooibfgnkkaaLed
namespace Go.Proofs.Ytaphooibfgnkkaa.Hand
open Go.RowKit Go.Proofs.YtaphooibfgnkkaaW.PrintWords Go.Proofs.YtaphooibfgnkkaaW.PrintLast Go.Proofs.YtaphooibfgnkkaaW.PrintMore
set_option linter.unusedVariables false
set_option linter.unusedSimpArgs false

theorem size_any {w : World} {g n : Nat} {O N T : Marks} (h : Lg w g n O N T) :
    Calls Try.prog 24 #[.pointer (some ⟨g, 0, none⟩)] w fun e w' => e = .returned (.int .i64 (n : Int)) ∧ w' = w := by
  have h0 := h.c0
  clear h
  go_enter Try.func24, Try.ntmps24
  go_wp2
  go_ret
  exact ⟨rfl, rfl⟩
theorem size_nil (w : World) : Calls Try.prog 24 #[.pointer none] w fun e w' => e = .returned (.int .i64 0) ∧ w' = w := by
  go_enter Try.func24, Try.ntmps24
  go_wp2
  go_ret
  exact ⟨rfl, rfl⟩
/-- Is page k in use, of those that there are? -/
def usedB (O N T : Marks) (k : Nat) : Bool := decide (k < 2) || O k || N k || T k
set_option maxHeartbeats 1000000 in
theorem use_in {w : World} {g n : Nat} {O N T : Marks} (h : Lg w g n O N T) (k : Nat) (hk : k < n) :
    Calls Try.prog 12 #[.pointer (some ⟨g, 0, none⟩), .int .i64 (k : Int)] w fun e w' => e = .returned (.bool (usedB O N T k)) ∧ w' = w := by
  have hn := h.le
  have e1 := h.cO k (by omega)
  have e2 := h.cN k (by omega)
  have e3 := h.cT k (by omega)
  have HH := Aside0.mk h
  have z1 : (k : Int) < (n : Int) := by omega
  have z2 : (k : Int) < 512 := by omega
  have z3 : (0 : Int) ≤ (k : Int) := by omega
  clear h
  by_cases h2 : k < 2
  · have z4 : decide ((k : Int) < 2) = true := decide_eq_true (by omega)
    have eu : usedB O N T k = true := by unfold usedB; simp [h2]
    rw [eu]
    clear eu
    go_enter Try.func12, Try.ntmps12
    go_wp2_with (go_at_call 24; refine (size_any HH.out).mono ?_; rintro e w1 ⟨rfl, rfl⟩)
    go_ret
    exact ⟨rfl, rfl⟩
  · have z4 : decide ((k : Int) < 2) = false := decide_eq_false (by omega)
    have eu : usedB O N T k = (O k || (N k || T k)) := by unfold usedB; simp [h2, Bool.or_assoc]
    rw [eu]
    clear eu h2
    generalize O k = x at e1 ⊢
    generalize N k = y at e2 ⊢
    generalize T k = z at e3 ⊢
    cases x
    all_goals
      cases y
      all_goals
        go_enter Try.func12, Try.ntmps12
        go_wp2_with (go_at_call 24; refine (size_any HH.out).mono ?_; rintro e w1 ⟨rfl, rfl⟩)
        go_ret
        exact ⟨by simp, rfl⟩
theorem use_out {w : World} {g n : Nat} {O N T : Marks} (h : Lg w g n O N T) (i : Int) (hi : i < 0 ∨ (n : Int) ≤ i) :
    Calls Try.prog 12 #[.pointer (some ⟨g, 0, none⟩), .int .i64 i] w fun e w' => e = .returned (.bool false) ∧ w' = w := by
  have HH := Aside0.mk h
  clear h
  by_cases h0 : i < 0
  · have z1 : decide (0 ≤ i) = false := decide_eq_false (by omega)
    clear hi h0
    go_enter Try.func12, Try.ntmps12
    go_wp2_with (go_at_call 24; refine (size_any HH.out).mono ?_; rintro e w1 ⟨rfl, rfl⟩)
    go_ret
    exact ⟨rfl, rfl⟩
  · have z1 : decide (0 ≤ i) = true := decide_eq_true (by omega)
    have z2 : decide (i < (n : Int)) = false := decide_eq_false (by omega)
    clear hi h0
    go_enter Try.func12, Try.ntmps12
    go_wp2_with (go_at_call 24; refine (size_any HH.out).mono ?_; rintro e w1 ⟨rfl, rfl⟩)
    go_ret
    exact ⟨rfl, rfl⟩
/-- InUse, told. -/
def useI (n : Nat) (O N T : Marks) (i : Int) : Bool := decide (0 ≤ i) && decide (i < (n : Int)) && usedB O N T i.toNat
theorem use_any {w : World} {g n : Nat} {O N T : Marks} (h : Lg w g n O N T) (i : Int) :
    Calls Try.prog 12 #[.pointer (some ⟨g, 0, none⟩), .int .i64 i] w fun e w' => e = .returned (.bool (useI n O N T i)) ∧ w' = w := by
  unfold useI
  by_cases hi : i < 0 ∨ (n : Int) ≤ i
  · have e : (decide (0 ≤ i) && decide (i < (n : Int)) && usedB O N T i.toNat) = false := by
      rcases hi with hi | hi
      · rw [decide_eq_false (show ¬ 0 ≤ i by omega)]; rfl
      · rw [decide_eq_false (show ¬ i < (n : Int) by omega), Bool.and_false]; rfl
    rw [e]
    exact use_out h i hi
  · obtain ⟨k, rfl⟩ := Int.eq_ofNat_of_zero_le (show 0 ≤ i by omega)
    have e : (decide (0 ≤ (k : Int)) && decide ((k : Int) < (n : Int)) && usedB O N T (k : Int).toNat) = usedB O N T k := by
      rw [decide_eq_true (show 0 ≤ (k : Int) by omega), decide_eq_true (show (k : Int) < (n : Int) by omega), Int.toNat_natCast]; rfl
    rw [e]
    exact use_in h k (by omega)
theorem use_nil (i : Int) (w : World) : Calls Try.prog 12 #[.pointer none, .int .i64 i] w fun e w' => e = .returned (.bool false) ∧ w' = w := by
  by_cases h0 : i < 0
  · have z1 : decide (0 ≤ i) = false := decide_eq_false (by omega)
    clear h0
    go_enter Try.func12, Try.ntmps12
    go_wp2_with (go_at_call 24; refine (size_nil _).mono ?_; rintro e w1 ⟨rfl, rfl⟩)
    go_ret
    exact ⟨rfl, rfl⟩
  · have z1 : decide (0 ≤ i) = true := decide_eq_true (by omega)
    have z2 : decide (i < 0) = false := decide_eq_false (by omega)
    clear h0
    go_enter Try.func12, Try.ntmps12
    go_wp2_with (go_at_call 24; refine (size_nil _).mono ?_; rintro e w1 ⟨rfl, rfl⟩)
    go_ret
    exact ⟨rfl, rfl⟩
/-- How many of the first k pages are free. -/
def freeN (U : Nat → Bool) : Nat → Nat
  | 0 => 0
  | k + 1 => freeN U k + if U k then 0 else 1
theorem freeN_le (U : Nat → Bool) (k : Nat) : freeN U k ≤ k := by
  induction k with
  | zero => exact Nat.le_refl _
  | succ k ih => simp only [freeN]; split <;> omega
def FreeRel (n : Nat) (U : Nat → Bool) (m i : Value) : Prop := ∃ k : Nat, k ≤ n ∧ i = .int .i64 (k : Int) ∧ m = .int .i64 (freeN U k : Int)
theorem free_any {w : World} {g n : Nat} {O N T : Marks} (h : Lg w g n O N T) :
    Calls Try.prog 11 #[.pointer (some ⟨g, 0, none⟩)] w fun e w' => e = .returned (.int .i64 (freeN (usedB O N T) n : Int)) ∧ w' = w := by
  have hn := h.le
  have HH := Aside0.mk h
  clear h
  go_enter Try.func11, Try.ntmps11
  go_wp2_with (go_at_call 24; refine (size_any HH.out).mono ?_; rintro e w1 ⟨rfl, rfl⟩)
  go_loop [3, 4, 7] (fun m _ i => FreeRel n (usedB O N T) m i) (fun _ _ i => n - (intOf i).toNat)
  case atStart => exact ⟨0, Nat.zero_le _, rfl, rfl⟩
  case round =>
    obtain ⟨k, hk, rfl, rfl⟩ := hrel
    have hf := freeN_le (usedB O N T) k
    by_cases hlt : k < n
    · have HU := Aside0.mk (use_in HH.out k hlt)
      generalize hu : usedB O N T k = u at HU
      have HUU := Aside0.mk hu
      clear hu
      cases u
      · go_wp2_with (go_at_call 12; refine HU.out.mono ?_; rintro e w1 ⟨rfl, rfl⟩)
        go_round
        case rel => exact ⟨k + 1, by omega, by go_num, by rw [freeN, HUU.out]; go_num⟩
        case measure => simp [intOf]; omega
      · go_wp2_with (go_at_call 12; refine HU.out.mono ?_; rintro e w1 ⟨rfl, rfl⟩)
        go_round
        case rel => exact ⟨k + 1, by omega, by go_num, by rw [freeN, HUU.out]; rfl⟩
        case measure => simp [intOf]; omega
    · obtain rfl : k = n := by omega
      go_wp2
      go_ret
      exact ⟨rfl, rfl⟩
theorem free_nil (w : World) : Calls Try.prog 11 #[.pointer none] w fun e w' => e = .returned (.int .i64 0) ∧ w' = w := by
  go_enter Try.func11, Try.ntmps11
  go_wp2_with (go_at_call 24; refine (size_nil _).mono ?_; rintro e w1 ⟨rfl, rfl⟩)
  go_loop [3, 7] (fun m i => m = .int .i64 0 ∧ i = .int .i64 0) (fun _ i => 0)
  case atStart => exact ⟨rfl, rfl⟩
  case round =>
    obtain ⟨rfl, rfl⟩ := hrel
    go_wp2
    go_ret
    exact ⟨rfl, rfl⟩
end Go.Proofs.Ytaphooibfgnkkaa.Hand
