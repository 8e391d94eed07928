/- The document's ledger, call by call: what is free, Abort, Commit, Take. -/
import Derived.Test.YtaphooibfgnkkaaLedRef
namespace Go.Proofs.Ytaphooibfgnkkaa.Hand
open Go.RowKit Go.Proofs.YtaphooibfgnkkaaW.PrintWords Go.Proofs.YtaphooibfgnkkaaW.PrintLast Go.Proofs.YtaphooibfgnkkaaW.PrintMore
set_option linter.unusedVariables false
set_option linter.unusedSimpArgs false
abbrev useS (O N T : List Int) : Nat → Bool := usedB (setF O) (setF N) (setF T)
theorem usedR_nat (O N T : List Int) (k : Nat) (hk : 2 ≤ k) : usedR O N T (k : Int) = useS O N T k := by
  unfold usedR useS usedB setF
  rw [decide_eq_false (by omega : ¬ k < 2), Bool.false_or]
theorem useS_low (O N T : List Int) (k : Nat) (hk : k < 2) : useS O N T k = true := by
  unfold useS usedB
  rw [decide_eq_true hk]; rfl
theorem Rl.c0 {w : World} {g n b : Nat} {O N T : List Int} (h : Rl w g n O N T b) : w.cell? ⟨g, 0, none⟩ = some (.int .i64 (n : Int)) := by
  obtain ⟨⟨A1, c1, A2, c2, v, h1, _⟩, _, _⟩ := h
  exact blk_cell h1 0
def FreeRel2 (n : Nat) (U : Nat → Bool) (m i : Value) : Prop := ∃ k : Nat, 2 ≤ k ∧ (k ≤ n ∨ k = 2) ∧ i = .int .i64 (k : Int) ∧ m = .int .i64 (freeN U k : Int)
theorem freeN_low (O N T : List Int) (k : Nat) (hk : k ≤ 2) : freeN (useS O N T) k = 0 := freeN_zero k fun j hj => useS_low O N T j (by omega)
set_option maxHeartbeats 1000000 in
theorem Rfree_any {w : World} {g n b : Nat} {O N T : List Int} (h : Rl w g n O N T b) (hn : n ≤ 512) :
    Calls Try.prog 21 #[.pointer (some ⟨g, 0, none⟩)] w fun e w' => e = .returned (.int .i64 (freeN (useS O N T) n : Int)) ∧ w' = w := by
  have HH := Aside0.mk h
  have hc := h.c0
  clear h
  go_enter Try.func21, Try.ntmps21
  go_wp2
  go_loop [3, 4] (fun m i => FreeRel2 n (useS O N T) m i) (fun _ i => n - (intOf i).toNat)
  case atStart => exact ⟨2, Nat.le_refl _, Or.inr rfl, rfl, by rw [freeN_low O N T 2 (Nat.le_refl _)]; rfl⟩
  case round =>
    obtain ⟨k, hk2, hk, rfl, rfl⟩ := hrel
    have hf := freeN_le (useS O N T) k
    by_cases hlt : k < n
    · have HU := Aside0.mk (Rused_any HH.out (k : Int))
      rw [usedR_nat O N T k hk2] at HU
      generalize hu : useS O N T k = u at HU
      have HUU := Aside0.mk hu
      clear hu
      cases u
      · go_wp2_with (go_at_call 22; refine HU.out.mono ?_; rintro e w1 ⟨rfl, rfl⟩)
        go_round
        case rel => exact ⟨k + 1, by omega, Or.inl (by omega), by go_num, by rw [freeN, HUU.out]; go_num⟩
        case measure => simp [intOf]; omega
      · go_wp2_with (go_at_call 22; refine HU.out.mono ?_; rintro e w1 ⟨rfl, rfl⟩)
        go_round
        case rel => exact ⟨k + 1, by omega, Or.inl (by omega), by go_num, by rw [freeN, HUU.out]; rfl⟩
        case measure => simp [intOf]; omega
    · go_wp2
      go_ret
      refine ⟨?_, rfl⟩
      rcases hk with hk | hk
      · obtain rfl : k = n := by omega
        rfl
      · rw [hk, freeN_low O N T 2 (Nat.le_refl _), freeN_low O N T n (by omega)]; rfl
theorem Row.set {w : World} {g b : Nat} {A : Option Addr} {l : List Int} (h : Row w g b A l) (j : Nat) (u : Value) : Row (w.setCell ⟨g, j, none⟩ u) g b A l :=
  h.keep fun k _ hg => Below.heap_setCell w ⟨g, j, none⟩ u k (by simp only [ne_eq]; omega)
theorem Rabort_any {w : World} {g n b : Nat} {O N T : List Int} (h : Rl w g n O N T b) :
    Calls Try.prog 20 #[.pointer (some ⟨g, 0, none⟩)] w fun e w' => e = .returned (.tuple #[]) ∧ Only w w' g ∧ Rl w' g n O N [] b := by
  obtain ⟨⟨A1, c1, A2, c2, v, h1, h2, h3, h4⟩, h5, h6⟩ := h
  have q3 := blk_cell h1 3
  have f3 := blk_frozen h1 3
  go_enter Try.func20, Try.ntmps20
  go_wp2
  go_end0
  exact ⟨rfl, (Only.refl _ _).set _ _, ⟨A1, c1, A2, c2, .slice none 0 0, blk_set h1 _ _, h2.set _ _, h3.set _ _, own_nil _ _ _ _⟩, h5, by simpa [World.setCell] using h6⟩
theorem Rcommit_any {w : World} {g n b b' : Nat} {O N T P : List Int} {A : Option Addr} {c : Nat} (h : Rl w g n O N T b) (hA : Row w g b' A P) (hb : b ≤ b') (hb' : b' ≤ w.heap.size) :
    Calls Try.prog 19 #[.pointer (some ⟨g, 0, none⟩), .slice A P.length c] w fun e w' => e = .returned (.tuple #[]) ∧ Only w w' g ∧ Rl w' g n N P [] b' := by
  obtain ⟨⟨A1, c1, A2, c2, v, h1, h2, h3, h4⟩, h5, h6⟩ := h
  have q1 := blk_cell h1 1
  have q2 := blk_cell h1 2
  have q3 := blk_cell h1 3
  have f1 := blk_frozen h1 1
  have f2 := blk_frozen h1 2
  have f3 := blk_frozen h1 3
  go_enter Try.func19, Try.ntmps19
  go_wp2
  go_end0
  exact ⟨rfl, (((Only.refl _ _).set _ _).set _ _).set _ _, ⟨A2, c2, A, c, .slice none 0 0, blk_set (blk_set (blk_set h1 _ _) _ _) _ _, (((h3.wide hb).set _ _).set _ _).set _ _, ((hA.set _ _).set _ _).set _ _, own_nil _ _ _ _⟩, by omega, by simpa [World.setCell] using hb'⟩
end Go.Proofs.Ytaphooibfgnkkaa.Hand
