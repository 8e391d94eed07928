/- The document's ledger, call by call. -/
import Derived.Test.YtaphooibfgnkkaaLedNil
namespace Go.Proofs.Ytaphooibfgnkkaa.Hand
open Go.RowKit Go.Proofs.YtaphooibfgnkkaaW.PrintWords Go.Proofs.YtaphooibfgnkkaaW.PrintLast Go.Proofs.YtaphooibfgnkkaaW.PrintMore
set_option linter.unusedVariables false
set_option linter.unusedSimpArgs false
/-- A list of ints in memory, between blocks g and b. -/
def Row (w : World) (g b : Nat) (A : Option Addr) (l : List Int) : Prop := (Kd.int .i64).C w A l.length l ∧ ∀ ad, A = some ad → g < ad.block ∧ ad.block < b
theorem Row.nil (w : World) (g b : Nat) : Row w g b none [] := ⟨Kd.C_nil _ _, fun ad h => by cases h⟩
theorem Row.keep {w w' : World} {g b : Nat} {A : Option Addr} {l : List Int} (h : Row w g b A l) (hk : ∀ k, k < b → g < k → w'.heap[k]? = w.heap[k]?) : Row w' g b A l := by
  refine ⟨⟨h.1.1, h.1.2.1, fun hn => ?_⟩, h.2⟩
  obtain ⟨ad, e, hc⟩ := h.1.2.2 hn
  refine ⟨ad, e, fun j p hp => ?_⟩
  obtain ⟨cs, h1, h2, h3⟩ := hc j p hp
  refine ⟨cs, h1, h2, fun j2 u hu => ?_⟩
  have := h3 j2 u hu
  have hb := h.2 ad e
  have e2 : ∀ q, (ad.add q).block = ad.block := fun q => by unfold Addr.add; split <;> rfl
  refine (World.cell?_of_block ?_).trans this
  rw [e2]
  exact hk _ hb.2 hb.1
theorem Row.wide {w : World} {g b b' : Nat} {A : Option Addr} {l : List Int} (h : Row w g b A l) (hb : b ≤ b') : Row w g b' A l := ⟨h.1, fun ad e => ⟨(h.2 ad e).1, Nat.lt_of_lt_of_le (h.2 ad e).2 hb⟩⟩
/-- The document's ledger at block g; what is taken lies from block b on. -/
structure Rl (w : World) (g n : Nat) (O N T : List Int) (b : Nat) : Prop where
  ex : ∃ A1 c1 A2 c2 v, w.heap[g]? = some (.cells #[.int .i64 (n : Int), .slice A1 O.length c1, .slice A2 N.length c2, v] 46 (0, 0)) ∧ Row w g b A1 O ∧ Row w g b A2 N ∧ w.ownsRow b 3 1 v T.length (nums .i64 T)
  lt : g < b
  bs : b ≤ w.heap.size
theorem Rl.below {w w' : World} {g n b : Nat} {O N T : List Int} (h : Rl w g n O N T b) (hb : Below w.heap.size w w') : Rl w' g n O N T b := by
  obtain ⟨⟨A1, c1, A2, c2, v, h1, h2, h3, h4⟩, h5, h6⟩ := h
  exact ⟨⟨A1, c1, A2, c2, v, blk_below h1 hb, h2.keep fun k hk _ => hb.block k (by omega), h3.keep fun k hk _ => hb.block k (by omega), pw_own_below h4 hb⟩, h5, Nat.le_trans h6 hb.size⟩
/-- Another block is written. -/
theorem Rl.other {w w' : World} {g n b q : Nat} {O N T : List Int} (h : Rl w g n O N T b) (ho : Only w w' q) (hq : q < g) : Rl w' g n O N T b := by
  obtain ⟨⟨A1, c1, A2, c2, v, h1, h2, h3, h4⟩, h5, h6⟩ := h
  refine ⟨⟨A1, c1, A2, c2, v, (ho.block g (blk_lt h1) (by omega)).trans h1, h2.keep fun k hk _ => ho.block k (by omega) (by omega), h3.keep fun k hk _ => ho.block k (by omega) (by omega), ?_⟩, h5, Nat.le_trans h6 ho.size⟩
  refine own_other h4 (row := some q) ⟨ho.os, ho.tape, ho.output, ho.size, fun k hk hne => ho.block k hk (by rintro rfl; exact hne rfl)⟩ ?_
  cases hv : v.ownBlock with
  | none => exact .inl rfl
  | some k => exact .inr (fun e => by have := own_base h4 k hv; injection e with e; omega)
def usedR (O N T : List Int) (i : Int) : Bool := decide (i ∈ O) || decide (i ∈ N) || decide (i ∈ T)
def HasRel (l : List Int) (i : Int) (j : Value) : Prop := ∃ k : Nat, k ≤ l.length ∧ j = .int .i64 (k : Int) ∧ i ∉ l.take k
theorem has_any {w : World} {A : Option Addr} {c : Nat} {l : List Int} (hC : (Kd.int .i64).C w A l.length l) (i : Int) :
    Calls Try.prog 25 #[.slice A l.length c, .int .i64 i] w fun e w' => e = .returned (.bool (decide (i ∈ l))) ∧ w' = w := by
  have HC := Aside0.mk hC
  have hl : l.length ≤ 9223372036854775807 := hC.2.1
  clear hC
  go_enter Try.func25, Try.ntmps25
  go_wp2
  go_loop [8] (fun j => HasRel l i j) (fun j => l.length - (intOf j).toNat)
  case atStart => exact ⟨0, Nat.zero_le _, rfl, by simp⟩
  case round =>
    obtain ⟨k, hk, rfl, hj⟩ := hrel
    by_cases hlt : k < l.length
    · obtain ⟨ad, hA, hcell⟩ := (Kd.reads_of_C (enc := Value.int .i64) (d := (0 : Int)) (h1 := fun _ => rfl) HC.out).2.2 (by omega)
      subst hA
      have hk' := hcell k hlt
      clear hcell
      have hmem : l.getD k 0 ∈ l := by rw [List.getD_eq_getElem?_getD, List.getElem?_eq_getElem hlt]; exact List.getElem_mem hlt
      have hnx : i ≠ l.getD k 0 → i ∉ l.take (k + 1) := fun hne => by
        rw [List.take_add_one, List.mem_append, List.getElem?_eq_getElem hlt]
        rw [List.getD_eq_getElem?_getD, List.getElem?_eq_getElem hlt] at hne
        rintro (h | h)
        · exact hj h
        · exact hne (by simpa using h)
      have HM := Aside0.mk hmem
      have HN := Aside0.mk hnx
      clear hmem hnx hj
      generalize l.getD k 0 = x at hk' HM HN
      by_cases hx : x = i
      · have z1 : (x == i) = true := beq_iff_eq.2 hx
        go_wp2
        go_ret
        exact ⟨by rw [decide_eq_true (hx ▸ HM.out)]; rfl, rfl⟩
      · have z1 : (x == i) = false := beq_eq_false_iff_ne.2 hx
        go_wp2
        go_round
        case rel => exact ⟨k + 1, by omega, by go_num, HN.out (Ne.symm hx)⟩
        case measure => simp [intOf]; omega
    · go_wp2
      go_ret
      rw [List.take_of_length_le (by omega)] at hj
      exact ⟨by rw [decide_eq_false hj]; rfl, rfl⟩
set_option maxHeartbeats 600000 in
theorem Rused_any {w : World} {g n b : Nat} {O N T : List Int} (h : Rl w g n O N T b) (i : Int) :
    Calls Try.prog 22 #[.pointer (some ⟨g, 0, none⟩), .int .i64 i] w fun e w' => e = .returned (.bool (usedR O N T i)) ∧ w' = w := by
  obtain ⟨⟨A1, c1, A2, c2, v, h1, h2, h3, h4⟩, h5, h6⟩ := h
  obtain ⟨A3, c3, rfl, hr⟩ := own_reads h4
  have q1 := blk_cell h1 1
  have q2 := blk_cell h1 2
  have q3 := blk_cell h1 3
  have H1 := Aside0.mk (fun (_ : Unit) => has_any (c := c1) h2.1 i)
  have H2 := Aside0.mk (fun (_ : Unit) => has_any (c := c2) h3.1 i)
  have H3 := Aside0.mk (fun (_ : Unit) => has_any (c := c3) (Kd.C_of_reads (d := (0 : Int)) (h1 := fun _ => rfl) hr) i)
  unfold usedR
  clear h1 h2 h3 h4 hr
  generalize decide (i ∈ O) = x at H1
  generalize decide (i ∈ N) = y at H2
  generalize decide (i ∈ T) = z at H3
  cases x <;> cases y <;> cases z
  all_goals
    go_enter Try.func22, Try.ntmps22
    go_wp2_with (go_at_call 25; first | (with_reducible refine (H1.out ()).mono ?_; rintro e w1 ⟨rfl, rfl⟩) | (with_reducible refine (H2.out ()).mono ?_; rintro e w1 ⟨rfl, rfl⟩) | (with_reducible refine (H3.out ()).mono ?_; rintro e w1 ⟨rfl, rfl⟩))
    go_ret
    exact ⟨rfl, rfl⟩
theorem Rnew_any (n : Nat) (w : World) (hn : n ≤ 512) : Calls Try.prog 17 #[.int .i64 (n : Int)] w fun e w' => e = .returned (.pointer (some ⟨w.heap.size, 0, none⟩)) ∧ Below w.heap.size w w' ∧ Rl w' w.heap.size n [] [] [] w'.heap.size := by
  have z1 : ¬ (512 : Int) < (n : Int) := by omega
  have z2 : ¬ (n : Int) < 0 := by omega
  go_enter Try.func17, Try.ntmps17
  go_wp2
  all_goals
    go_ret
    first | exact ⟨rfl, below_alloc (Below.refl _ _) _, ⟨none, 0, none, 0, .slice none 0 0, blk_new _ _, Row.nil _ _ _, Row.nil _ _ _, own_nil _ _ _ _⟩, blk_lt (blk_new _ _), Nat.le_refl _⟩ | (obtain rfl : n = 0 := by omega)
  exact ⟨rfl, below_alloc (Below.refl _ _) _, ⟨none, 0, none, 0, .slice none 0 0, blk_new _ _, Row.nil _ _ _, Row.nil _ _ _, own_nil _ _ _ _⟩, blk_lt (blk_new _ _), Nat.le_refl _⟩
end Go.Proofs.Ytaphooibfgnkkaa.Hand
