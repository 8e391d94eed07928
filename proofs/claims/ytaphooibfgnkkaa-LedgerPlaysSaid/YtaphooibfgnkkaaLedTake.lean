/- The ledger, call by call: New, Take, Abort. -/
import Derived.Test.YtaphooibfgnkkaaLedUse
namespace Go.Proofs.Ytaphooibfgnkkaa.Hand
open Go.RowKit Go.Proofs.YtaphooibfgnkkaaW.PrintWords Go.Proofs.YtaphooibfgnkkaaW.PrintLast Go.Proofs.YtaphooibfgnkkaaW.PrintMore
set_option linter.unusedVariables false
set_option linter.unusedSimpArgs false

/-- The page that Take takes. -/
def takeF (U : Nat → Bool) (n : Nat) : Option Nat := (List.range n).find? (fun k => decide (2 ≤ k) && !U k)
theorem takeF_some {U : Nat → Bool} {n k : Nat} (h2 : 2 ≤ k) (hk : k < n) (hu : U k = false) (hj : ∀ j, 2 ≤ j → j < k → U j = true) : takeF U n = some k := by
  unfold takeF
  rw [List.find?_range_eq_some]
  refine ⟨by simp [h2, hu], by simpa using hk, fun j hj' => ?_⟩
  by_cases h : 2 ≤ j
  · simp [hj j h hj']
  · simp [h]
theorem takeF_none {U : Nat → Bool} {n : Nat} (hj : ∀ j, 2 ≤ j → j < n → U j = true) : takeF U n = none := by
  unfold takeF
  rw [List.find?_range_eq_none]
  intro j hj'
  by_cases h : 2 ≤ j
  · simp [hj j h hj']
  · simp [h]
theorem takeF_is {U : Nat → Bool} {n k : Nat} (h : takeF U n = some k) : 2 ≤ k ∧ k < n ∧ U k = false ∧ ∀ j, 2 ≤ j → j < k → U j = true := by
  unfold takeF at h
  rw [List.find?_range_eq_some] at h
  obtain ⟨h1, h2, h3⟩ := h
  simp only [Bool.and_eq_true, decide_eq_true_eq, Bool.not_eq_true'] at h1
  refine ⟨h1.1, by simpa using h2, h1.2, fun j hj hjk => ?_⟩
  have := h3 j hjk
  simpa [hj] using this
theorem takeF_not {U : Nat → Bool} {n : Nat} (h : takeF U n = none) : ∀ j, 2 ≤ j → j < n → U j = true := by
  unfold takeF at h
  rw [List.find?_range_eq_none] at h
  intro j h2 hj
  have := h j hj
  simpa [h2] using this
def tk (o : Option Nat) : Int := match o with
  | some k => (k : Int)
  | none => 0
def te (o : Option Nat) : Int := match o with
  | some _ => 0
  | none => 8
def tm (T : Marks) (o : Option Nat) : Marks := match o with
  | some k => put_ T k
  | none => T
def TakeOut (w : World) (g n : Nat) (O N T : Marks) (e : Ending) (w' : World) : Prop :=
  e = .returned (.tuple #[.int .i64 (tk (takeF (usedB O N T) n)), .int .i64 (te (takeF (usedB O N T) n))]) ∧ Only w w' g ∧ Lg w' g n O N (tm T (takeF (usedB O N T) n))
theorem Lg.take {w : World} {g n : Nat} {O N T : Marks} (h : Lg w g n O N T) (k : Nat) (hk : k < 512) : Lg (w.setCell ⟨g, 1025 + k, none⟩ (.bool true)) g n O N (put_ T k) := by
  obtain ⟨⟨C, h1, h2⟩, h3⟩ := h
  refine ⟨⟨_, blk_set h1 (1025 + k) (.bool true), ⟨by simp [h2.size], ?_, fun j hj => ?_, fun j hj => ?_, fun j hj => ?_⟩⟩, h3⟩
  · rw [Array.getElem?_setIfInBounds_ne (by omega)]; exact h2.pages
  · rw [Array.getElem?_setIfInBounds_ne (by omega)]; exact h2.older j hj
  · rw [Array.getElem?_setIfInBounds_ne (by omega)]; exact h2.newer j hj
  · unfold put_
    by_cases e : j = k
    · subst e
      rw [Array.getElem?_setIfInBounds_self_of_lt (by rw [h2.size]; omega), if_pos rfl]
    · rw [Array.getElem?_setIfInBounds_ne (by omega), if_neg e]; exact h2.taken j hj
def TakeRel (U : Nat → Bool) (n : Nat) (i : Value) : Prop := ∃ k : Nat, 2 ≤ k ∧ (k ≤ n ∨ k = 2) ∧ i = .int .i64 (k : Int) ∧ ∀ j, 2 ≤ j → j < k → U j = true
set_option maxHeartbeats 1000000 in
theorem take_any {w : World} {g n : Nat} {O N T : Marks} (h : Lg w g n O N T) :
    Calls Try.prog 14 #[.pointer (some ⟨g, 0, none⟩)] w (TakeOut w g n O N T) := by
  have hn := h.le
  have HH := Aside0.mk h
  clear h
  go_enter Try.func14, Try.ntmps14
  go_wp2
  go_loop [4] (fun i => TakeRel (usedB O N T) n i) (fun i => n - (intOf i).toNat)
  case atStart => exact ⟨2, Nat.le_refl _, Or.inr rfl, rfl, fun j h1 h2 => absurd h1 (by omega)⟩
  case round =>
    obtain ⟨k, hk2, hk, rfl, hj⟩ := hrel
    have HJ := Aside0.mk hj
    clear hj
    by_cases hlt : k < n
    · have HU := Aside0.mk (use_in HH.out k hlt)
      generalize hu : usedB O N T k = u at HU
      have HUU := Aside0.mk hu
      clear hu
      cases u
      · have hc := HH.out.cT k (by omega)
        have hf := HH.out.fr (1025 + k)
        have z1 : (0 : Int) ≤ (k : Int) := by omega
        have z2 : (k : Int) < 512 := by omega
        go_wp2_with (first | (go_at_call 24; refine (size_any HH.out).mono ?_; rintro e w1 ⟨rfl, rfl⟩) | (go_at_call 12; refine HU.out.mono ?_; rintro e w1 ⟨rfl, rfl⟩))
        go_ret2
        unfold TakeOut
        rw [takeF_some hk2 hlt HUU.out HJ.out]
        exact ⟨rfl, (Only.refl _ _).set _ _, HH.out.take k (by omega)⟩
      · go_wp2_with (first | (go_at_call 24; refine (size_any HH.out).mono ?_; rintro e w1 ⟨rfl, rfl⟩) | (go_at_call 12; refine HU.out.mono ?_; rintro e w1 ⟨rfl, rfl⟩))
        go_round
        case rel =>
          refine ⟨k + 1, by omega, Or.inl (by omega), by go_num, fun j h1 h2 => ?_⟩
          by_cases e : j = k
          · rw [e]; exact HUU.out
          · exact HJ.out j h1 (by omega)
        case measure => simp [intOf]; omega
    · have HF := Aside0.mk (takeF_none (U := usedB O N T) (n := n) (fun j h1 h2 => HJ.out j h1 (by omega)))
      go_wp2_with (go_at_call 24; refine (size_any HH.out).mono ?_; rintro e w1 ⟨rfl, rfl⟩)
      go_ret2
      unfold TakeOut
      rw [HF.out]
      exact ⟨rfl, Only.refl _ _, HH.out⟩
end Go.Proofs.Ytaphooibfgnkkaa.Hand
