/- Pages that can be have unlike bytes when they are unlike. -/
import Derived.Test.YtgbcfkcnoncgdaaEncPure
import Derived.Test.YtgbcfkcnoncgdaaRefRightPure
namespace Go.Proofs.Ytgbcfkcnoncgdaa.Pure
open Go.Proofs.Ytgbcfkcnoncgdaa.Hand
open Go.RowKit Go.Proofs.Ytgbcfkcnoncgdaa.Sp Go.Proofs.YtgbcfkcnoncgdaaW.PrintWords Go.Proofs.YtgbcfkcnoncgdaaW.PrintLast Go.Proofs.YtgbcfkcnoncgdaaW.PrintMore
set_option linter.unusedVariables false

theorem num_inj {v w : Int} {x y : List Int} (hv : 0 ≤ v ∧ v ≤ 65535) (hw : 0 ≤ w ∧ w ≤ 65535) (h : num16 v ++ x = num16 w ++ y) : v = w ∧ x = y := by
  unfold num16 at h
  simp only [List.cons_append, List.nil_append, List.cons.injEq] at h
  exact ⟨by omega, h.2.2⟩
theorem text_inj {a b : ByteArray} {x y : List Int} (ha : a.size ≤ 65535) (hb : b.size ≤ 65535) (h : textL a ++ x = textL b ++ y) : a = b ∧ x = y := by
  unfold textL at h
  rw [List.append_assoc, List.append_assoc] at h
  obtain ⟨hs, h2⟩ := num_inj (by omega) (by omega) h
  have hl : (bytesOf a).length = (bytesOf b).length := by rw [bytesOf_length, bytesOf_length]; omega
  obtain ⟨h3, h4⟩ := List.append_inj h2 hl
  exact ⟨bytesOf_inj h3, h4⟩
theorem one_inj {a b : Int} {x y : List Int} (h : [a] ++ x = [b] ++ y) : a = b ∧ x = y := by
  simp only [List.cons_append, List.nil_append, List.cons.injEq] at h
  exact h
theorem valOk_cases {v : ByteArray} {n m : Int} (h : valOk v n m = true) : (n = 0 ∧ m = 0 ∧ v.size ≤ 24) ∨ (v.size = 0 ∧ 25 ≤ n ∧ n ≤ 400 ∧ 2 ≤ m ∧ m ≤ 511) := by
  unfold valOk numOk at h
  simp only [Bool.or_eq_true, Bool.and_eq_true, decide_eq_true_eq] at h
  omega
theorem size0 {a b : ByteArray} (ha : a.size = 0) (hb : b.size = 0) : a = b := by
  apply bytesOf_inj
  have h1 := bytesOf_length a
  have h2 := bytesOf_length b
  rw [ha] at h1; rw [hb] at h2
  rw [List.length_eq_zero_iff.1 h1, List.length_eq_zero_iff.1 h2]
attribute [local irreducible] textL num16 sealL padL strOfNums
theorem cell_inj {c d : S57} {x y : List Int} (hc : keyOk c.f0 = true) (hd : keyOk d.f0 = true) (vc : valOk c.f1 c.f2 c.f3 = true) (vd : valOk d.f1 d.f2 d.f3 = true)
    (h : cellL c ++ x = cellL d ++ y) : c = d ∧ x = y := by
  have k1 := keyOk_len hc
  have k2 := keyOk_len hd
  have l1 := valOk_len vc
  have l2 := valOk_len vd
  unfold cellL at h
  rw [List.append_assoc (textL c.f0), List.append_assoc (textL d.f0)] at h
  obtain ⟨h0, h1⟩ := text_inj (a := c.f0) (b := d.f0) (by omega) (by omega) h
  have key : c.f1 = d.f1 ∧ c.f2 = d.f2 ∧ c.f3 = d.f3 ∧ x = y := by
    rcases valOk_cases vc with ⟨a1, a2, a3⟩ | ⟨a1, a2, a3, a4, a5⟩
    · rw [if_pos a2] at h1
      rcases valOk_cases vd with ⟨b1, b2, b3⟩ | ⟨b1, b2, b3, b4, b5⟩
      · rw [if_pos b2] at h1; simp only [List.append_assoc] at h1
        obtain ⟨_, h2⟩ := one_inj h1
        obtain ⟨h3, h4⟩ := text_inj (by omega) (by omega) h2
        exact ⟨h3, by omega, by omega, h4⟩
      · rw [if_neg (by omega)] at h1; simp only [List.append_assoc] at h1
        obtain ⟨h2, _⟩ := one_inj h1
        exact absurd h2 (by decide)
    · rw [if_neg (by omega)] at h1
      rcases valOk_cases vd with ⟨b1, b2, b3⟩ | ⟨b1, b2, b3, b4, b5⟩
      · rw [if_pos b2] at h1; simp only [List.append_assoc] at h1
        obtain ⟨h2, _⟩ := one_inj h1
        exact absurd h2 (by decide)
      · rw [if_neg (by omega)] at h1; simp only [List.append_assoc] at h1
        obtain ⟨_, h2⟩ := one_inj h1
        obtain ⟨h3, h4⟩ := num_inj (by omega) (by omega) h2
        obtain ⟨h5, h6⟩ := num_inj (by omega) (by omega) h4
        exact ⟨size0 a1 b1, h3, h5, h6⟩
  obtain ⟨e1, e2, e3, e4⟩ := key
  cases c; cases d
  simp only at h0 e1 e2 e3
  subst h0; subst e1; subst e2; subst e3
  exact ⟨rfl, e4⟩
theorem kid_inj {c d : S61} {x y : List Int} (hc : keyOk c.f0 = true) (hd : keyOk d.f0 = true) (vc : numOk c.f1 = true) (vd : numOk d.f1 = true)
    (h : kidL c ++ x = kidL d ++ y) : c = d ∧ x = y := by
  have k1 := keyOk_len hc
  have k2 := keyOk_len hd
  have l1 := numOk_num vc
  have l2 := numOk_num vd
  unfold kidL at h
  rw [List.append_assoc (textL c.f0), List.append_assoc (textL d.f0)] at h
  obtain ⟨h0, h1⟩ := text_inj (a := c.f0) (b := d.f0) (by omega) (by omega) h
  obtain ⟨e1, e4⟩ := num_inj (by omega) (by omega) h1
  cases c; cases d
  simp only at h0 e1
  subst h0; subst e1
  exact ⟨rfl, e4⟩
theorem cells_inj : ∀ (l m : List S57) (p q : ByteArray) (x y : List Int), cellsOk p l = true → cellsOk q m = true → l.length = m.length → l.flatMap cellL ++ x = m.flatMap cellL ++ y → l = m ∧ x = y
  | [], [], _, _, x, y, _, _, _, h => ⟨rfl, by simpa using h⟩
  | [], _ :: _, _, _, _, _, _, _, hl, _ => by simp at hl
  | _ :: _, [], _, _, _, _, _, _, hl, _ => by simp at hl
  | c :: l, d :: m, p, q, x, y, h1, h2, hl, h => by
    simp only [cellsOk, Bool.and_eq_true] at h1 h2
    rw [List.flatMap_cons, List.flatMap_cons, List.append_assoc, List.append_assoc] at h
    obtain ⟨e, h⟩ := cell_inj h1.1.1.1 h2.1.1.1 h1.1.2 h2.1.2 h
    obtain ⟨e2, h⟩ := cells_inj l m _ _ x y h1.2 h2.2 (by simpa using hl) h
    exact ⟨by rw [e, e2], h⟩
theorem kids_inj : ∀ (l m : List S61) (p q : ByteArray) (x y : List Int), kidsOk p l = true → kidsOk q m = true → l.length = m.length → l.flatMap kidL ++ x = m.flatMap kidL ++ y → l = m ∧ x = y
  | [], [], _, _, x, y, _, _, _, h => ⟨rfl, by simpa using h⟩
  | [], _ :: _, _, _, _, _, _, _, hl, _ => by simp at hl
  | _ :: _, [], _, _, _, _, _, _, hl, _ => by simp at hl
  | c :: l, d :: m, p, q, x, y, h1, h2, hl, h => by
    simp only [kidsOk, Bool.and_eq_true] at h1 h2
    rw [List.flatMap_cons, List.flatMap_cons, List.append_assoc, List.append_assoc] at h
    obtain ⟨e, h⟩ := kid_inj h1.1.1.1 h2.1.1.1 h1.1.2 h2.1.2 h
    obtain ⟨e2, h⟩ := kids_inj l m _ _ x y h1.2 h2.2 (by simpa using hl) h
    exact ⟨by rw [e, e2], h⟩

theorem cv_inj : ∀ {l m : List S64}, l.map cv = m.map cv → l = m
  | [], [], _ => rfl
  | [], _ :: _, h => by simp at h
  | _ :: _, [], h => by simp at h
  | c :: l, d :: m, h => by
    simp only [List.map_cons, List.cons.injEq] at h
    have e := cv_inj h.2
    obtain ⟨a1, a2, a3, a4⟩ := c
    obtain ⟨b1, b2, b3, b4⟩ := d
    have h1 := h.1
    unfold cv at h1
    injection h1 with e1 e2 e3 e4
    simp only at e1 e2 e3 e4
    rw [e1, e2, e3, e4, e]
theorem cw_inj : ∀ {l m : List S65}, l.map cw = m.map cw → l = m
  | [], [], _ => rfl
  | [], _ :: _, h => by simp at h
  | _ :: _, [], h => by simp at h
  | c :: l, d :: m, h => by
    simp only [List.map_cons, List.cons.injEq] at h
    have e := cw_inj h.2
    obtain ⟨a1, a2⟩ := c
    obtain ⟨b1, b2⟩ := d
    have h1 := h.1
    unfold cw at h1
    injection h1 with e1 e2
    simp only at e1 e2
    rw [e1, e2, e]

theorem seal_inj {x y : List Int} (hx : x.length = 252) (hy : y.length = 252) (h : sealL x = sealL y) : x = y := by
  have := congrArg (List.take 252) h
  unfold sealL at this
  rw [List.take_append_of_le_length (by omega), List.take_append_of_le_length (by omega), List.take_of_length_le (by omega), List.take_of_length_le (by omega)] at this
  exact this

theorem enc_inj {k1 k2 : Int} {c1 c2 : List S57} {d1 d2 : List S61} {p1 p2 : ByteArray} {n1 n2 : Int} (h1 : rightB k1 c1 d1 p1 n1 = true) (h2 : rightB k2 c2 d2 p2 n2 = true)
    (h : encL k1 c1 d1 p1 n1 = encL k2 c2 d2 p2 n2) : k1 = k2 ∧ c1 = c2 ∧ d1 = d2 ∧ p1 = p2 ∧ n1 = n2 := by
  have b1 := body_len h1
  have b2 := body_len h2
  unfold encL at h
  have h := seal_inj (padL_length _ b1) (padL_length _ b2) h
  unfold padL at h
  generalize List.replicate (252 - (bodyL k1 c1 d1 p1 n1).length) (0 : Int) = z1 at h
  generalize List.replicate (252 - (bodyL k2 c2 d2 p2 n2).length) (0 : Int) = z2 at h
  clear b1 b2
  unfold bodyL at h
  rw [List.cons_append, List.cons_append, List.cons.injEq] at h
  obtain ⟨hk, h⟩ := h
  unfold rightB at h1 h2
  by_cases a1 : k1 = 1
  · subst a1
    rw [if_pos rfl] at h1 h
    by_cases a2 : k2 = 1
    · subst a2
      rw [if_pos rfl] at h2 h
      simp only [Bool.and_eq_true, decide_eq_true_eq] at h1 h2
      rw [List.cons_append, List.cons_append, List.cons.injEq] at h
      obtain ⟨e, _⟩ := cells_inj _ _ _ _ _ _ h1.2 h2.2 (by omega) h.2
      refine ⟨rfl, e, ?_, size0 h1.1.1.1.1 h2.1.1.1.1, by omega⟩
      rw [List.length_eq_zero_iff.1 h1.1.1.2, List.length_eq_zero_iff.1 h2.1.1.2]
    · by_cases a3 : k2 = 2
      · subst a3; exact absurd hk (by decide)
      · by_cases a4 : k2 = 3
        · subst a4; exact absurd hk (by decide)
        · rw [if_neg a2, if_neg a3, if_neg a4] at h2; cases h2
  · rw [if_neg a1] at h1 h
    by_cases c1 : k1 = 2
    · subst c1
      rw [if_pos rfl] at h1 h
      by_cases a2 : k2 = 1
      · subst a2; exact absurd hk (by decide)
      · rw [if_neg a2] at h2 h
        by_cases a3 : k2 = 2
        · subst a3
          rw [if_pos rfl] at h2 h
          simp only [Bool.and_eq_true, decide_eq_true_eq] at h1 h2
          rw [List.cons_append, List.cons_append, List.cons.injEq] at h
          obtain ⟨e, _⟩ := kids_inj _ _ _ _ _ _ h1.2 h2.2 (by omega) h.2
          refine ⟨rfl, ?_, e, size0 h1.1.1.1.1 h2.1.1.1.1, by omega⟩
          rw [List.length_eq_zero_iff.1 h1.1.1.2, List.length_eq_zero_iff.1 h2.1.1.2]
        · by_cases a4 : k2 = 3
          · subst a4; exact absurd hk (by decide)
          · rw [if_neg a3, if_neg a4] at h2; cases h2
    · rw [if_neg c1] at h1 h
      by_cases c3 : k1 = 3
      · subst c3
        rw [if_pos rfl] at h1 h
        by_cases a2 : k2 = 1
        · subst a2; exact absurd hk (by decide)
        · rw [if_neg a2] at h2 h
          by_cases a3 : k2 = 2
          · subst a3; exact absurd hk (by decide)
          · rw [if_neg a3] at h2 h
            by_cases a4 : k2 = 3
            · subst a4
              rw [if_pos rfl] at h2 h
              simp only [Bool.and_eq_true, Bool.or_eq_true, decide_eq_true_eq] at h1 h2
              have m1 : 0 ≤ n1 ∧ n1 ≤ 65535 := by
                rcases h1.2 with h | h
                · omega
                · have := numOk_num h; omega
              have m2 : 0 ≤ n2 ∧ n2 ≤ 65535 := by
                rcases h2.2 with h | h
                · omega
                · have := numOk_num h; omega
              rw [List.append_assoc, List.append_assoc] at h
              obtain ⟨e, h⟩ := text_inj (by omega) (by omega) h
              obtain ⟨e2, _⟩ := num_inj m1 m2 h
              refine ⟨rfl, ?_, ?_, e, e2⟩
              · rw [List.length_eq_zero_iff.1 h1.1.1.1, List.length_eq_zero_iff.1 h2.1.1.1]
              · rw [List.length_eq_zero_iff.1 h1.1.1.2, List.length_eq_zero_iff.1 h2.1.1.2]
            · rw [if_neg a4] at h2; cases h2
      · rw [if_neg c3] at h1; cases h1
end Go.Proofs.Ytgbcfkcnoncgdaa.Pure
