/- When two pages are the same: the document's answer. -/
import Derived.Test.YtgbcfkcnoncgdaaEncPure
import Derived.Test.YtgbcfkcnoncgdaaRefRightPure
import Derived.Test.YtgbcfkcnoncgdaaSp15
namespace Go.Proofs.Ytgbcfkcnoncgdaa.Pure
open Go.Proofs.Ytgbcfkcnoncgdaa.Hand
open Go.RowKit Go.Proofs.Ytgbcfkcnoncgdaa.Sp Go.Proofs.YtgbcfkcnoncgdaaW.PrintWords Go.Proofs.YtgbcfkcnoncgdaaW.PrintLast Go.Proofs.YtgbcfkcnoncgdaaW.PrintMore
set_option linter.unusedVariables false

theorem beq_str (a b : ByteArray) : (a.toList == b.toList) = true ↔ a = b := by rw [beq_iff_eq, toList_inj]
theorem true_iff {x : Bool} {p : Prop} (h : x = false ↔ p) : x = true ↔ ¬ p := by
  constructor
  · intro hx hp
    rw [h.2 hp] at hx
    cases hx
  · intro hn
    cases hx : x
    · exact absurd (h.1 hx) hn
    · rfl
theorem diff64 (a b : S64) : (!((a.f0.toList) == (b.f0.toList)) || (!((a.f1.toList) == (b.f1.toList)) || (!(a.f2 == b.f2) || (!(a.f3 == b.f3))))) = true ↔ a ≠ b := by
  refine true_iff ?_
  simp only [Bool.or_eq_false_iff, Bool.not_eq_false', beq_iff_eq, toList_inj]
  obtain ⟨a0, a1, a2, a3⟩ := a
  obtain ⟨b0, b1, b2, b3⟩ := b
  simp only [S64.mk.injEq]
theorem diff65 (a b : S65) : (!((a.f0.toList) == (b.f0.toList)) || (!(a.f1 == b.f1))) = true ↔ a ≠ b := by
  refine true_iff ?_
  simp only [Bool.or_eq_false_iff, Bool.not_eq_false', beq_iff_eq, toList_inj]
  obtain ⟨a0, a1⟩ := a
  obtain ⟨b0, b1⟩ := b
  simp only [S65.mk.injEq]

theorem same_l1 (k1 k2 : Int) (c1 c2 : List S64) (d1 d2 : List S65) (p1 p2 : ByteArray) (n1 n2 : Int) (hl : d1.length = d2.length) (hd : d1.length ≤ 1000000) (d : Nat) : ∀ (k i : Nat), i ≤ d1.length → d1.length - i = d → d < k →
    ∃ b, sapwoodref04_Same.l1 k (d1.length : Int) (i : Int) k1 c1 d1 p1 n1 k2 c2 d2 p2 n2 = some b ∧ (b = true ↔ d1.drop i = d2.drop i) := by
  induction d with
  | zero =>
    intro k i hi he hk
    obtain ⟨k, rfl⟩ : ∃ m, k = m + 1 := ⟨k - 1, by omega⟩
    simp only [sapwoodref04_Same.l1]
    rw [if_neg (by omega), List.drop_of_length_le (by omega), List.drop_of_length_le (by omega)]
    exact ⟨true, rfl, by simp⟩
  | succ d ih =>
    intro k i hi he hk
    obtain ⟨k, rfl⟩ : ∃ m, k = m + 1 := ⟨k - 1, by omega⟩
    have h1 : i < d1.length := by omega
    have h2 : i < d2.length := by omega
    simp only [sapwoodref04_Same.l1]
    rw [if_pos (by omega), if_pos (by omega), if_pos (by omega), if_pos (by omega), rd65 h1, rd65 h2, List.drop_eq_getElem_cons h1, List.drop_eq_getElem_cons h2]
    by_cases e : d1[i] = d2[i]
    · rw [if_neg (fun h => (diff65 _ _).1 h e), nx_nat i (by omega)]
      obtain ⟨b, hb, hb2⟩ := ih k (i + 1) (by omega) (by omega) (by omega)
      exact ⟨b, hb, by rw [hb2, e, List.cons.injEq]; simp only [true_and]⟩
    · rw [if_pos ((diff65 _ _).2 e)]
      exact ⟨false, rfl, ⟨(fun h => by cases h), fun h => absurd (List.cons.inj h).1 e⟩⟩
theorem same_l0 (k1 k2 : Int) (c1 c2 : List S64) (d1 d2 : List S65) (p1 p2 : ByteArray) (n1 n2 : Int) (hl : d1.length = d2.length) (hd : d1.length ≤ 1000000) (hm : c1.length = c2.length) (hc : c1.length ≤ 1000000) (d : Nat) : ∀ (k i : Nat), i ≤ c1.length → c1.length - i = d → d + d1.length + 1 < k →
    ∃ b, sapwoodref04_Same.l0 k (c1.length : Int) (i : Int) k1 c1 d1 p1 n1 k2 c2 d2 p2 n2 = some b ∧ (b = true ↔ (c1.drop i = c2.drop i ∧ d1 = d2)) := by
  induction d with
  | zero =>
    intro k i hi he hk
    obtain ⟨k, rfl⟩ : ∃ m, k = m + 1 := ⟨k - 1, by omega⟩
    simp only [sapwoodref04_Same.l0]
    rw [if_neg (by omega), List.drop_of_length_le (by omega), List.drop_of_length_le (by omega)]
    obtain ⟨b, hb, hb2⟩ := same_l1 k1 k2 c1 c2 d1 d2 p1 p2 n1 n2 hl hd _ k 0 (by omega) rfl (by omega)
    exact ⟨b, hb, by rw [hb2]; simp⟩
  | succ d ih =>
    intro k i hi he hk
    obtain ⟨k, rfl⟩ : ∃ m, k = m + 1 := ⟨k - 1, by omega⟩
    have h1 : i < c1.length := by omega
    have h2 : i < c2.length := by omega
    simp only [sapwoodref04_Same.l0]
    rw [if_pos (by omega), if_pos (by omega), if_pos (by omega), if_pos (by omega), rd64 h1, rd64 h2, List.drop_eq_getElem_cons h1, List.drop_eq_getElem_cons h2]
    by_cases e : c1[i] = c2[i]
    · rw [if_neg (fun h => (diff64 _ _).1 h e), nx_nat i (by omega)]
      obtain ⟨b, hb, hb2⟩ := ih k (i + 1) (by omega) (by omega) (by omega)
      exact ⟨b, hb, by rw [hb2, e, List.cons.injEq]; simp only [true_and]⟩
    · rw [if_pos ((diff64 _ _).2 e)]
      exact ⟨false, rfl, ⟨(fun h => by cases h), fun h => absurd (List.cons.inj h.1).1 e⟩⟩
theorem same_f (k1 k2 : Int) (c1 c2 : List S64) (d1 d2 : List S65) (p1 p2 : ByteArray) (n1 n2 : Int) (hd : d1.length ≤ 1000000) (hc : c1.length ≤ 1000000) (k : Nat) (hk : c1.length + d1.length + 3 < k) :
    ∃ b, sapwoodref04_Same.f k k1 c1 d1 p1 n1 k2 c2 d2 p2 n2 = some b ∧ (b = true ↔ (k1 = k2 ∧ c1 = c2 ∧ d1 = d2 ∧ p1 = p2 ∧ n1 = n2)) := by
  obtain ⟨k, rfl⟩ : ∃ m, k = m + 1 := ⟨k - 1, by omega⟩
  unfold sapwoodref04_Same.f
  simp only [sapwoodref04_Same.j0]
  by_cases e1 : k1 = k2
  · rw [if_pos e1]
    by_cases e2 : p1 = p2
    · rw [if_pos (toList_inj.2 e2)]
      by_cases e3 : n1 = n2
      · rw [if_pos e3]
        by_cases e4 : c1.length = c2.length
        · rw [if_pos (by omega)]
          by_cases e5 : d1.length = d2.length
          · rw [if_neg (by rw [bne_iff_ne]; omega)]
            obtain ⟨b, hb, hb2⟩ := same_l0 k1 k2 c1 c2 d1 d2 p1 p2 n1 n2 e5 hd e4 hc _ k 0 (by omega) rfl (by omega)
            exact ⟨b, hb, by rw [hb2]; simp [e1, e2, e3]⟩
          · rw [if_pos (by rw [bne_iff_ne]; omega)]
            exact ⟨false, rfl, by simp; intro _ _ h; exact absurd (by rw [h]) e5⟩
        · rw [if_neg (by omega), if_pos (by trivial)]
          exact ⟨false, rfl, by simp; intro _ h; exact absurd (by rw [h]) e4⟩
      · rw [if_neg e3, if_pos (by trivial)]
        exact ⟨false, rfl, by simp [e3]⟩
    · rw [if_neg (fun h => e2 (toList_inj.1 h)), if_pos (by trivial)]
      exact ⟨false, rfl, by simp [e2]⟩
  · rw [if_neg e1, if_pos (by trivial)]
    exact ⟨false, rfl, by simp [e1]⟩
end Go.Proofs.Ytgbcfkcnoncgdaa.Pure
