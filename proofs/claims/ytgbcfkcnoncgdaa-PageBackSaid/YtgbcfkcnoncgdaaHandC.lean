/- In plain Lean: what the law's functions come to, and that the law answers true. -/
import Derived.Test.YtgbcfkcnoncgdaaHandB
import Derived.Test.YtgbcfkcnoncgdaaHandD
import Derived.Test.YtgbcfkcnoncgdaaSp7
import Derived.Test.YtgbcfkcnoncgdaaSp8
import Derived.Test.YtgbcfkcnoncgdaaSp15
import Derived.Test.YtgbcfkcnoncgdaaSp19
namespace Go.Proofs.Ytgbcfkcnoncgdaa.Pure
open Go.Proofs.Ytgbcfkcnoncgdaa.Hand
open Go.RowKit Go.Proofs.Ytgbcfkcnoncgdaa.Sp Go.Proofs.YtgbcfkcnoncgdaaW.PrintWords Go.Proofs.YtgbcfkcnoncgdaaW.PrintLast Go.Proofs.YtgbcfkcnoncgdaaW.PrintMore
set_option linter.unusedVariables false
attribute [local irreducible] textL cellL kidL num16 sealL padL strOfNums
theorem leaf0 : rightB 1 [] [] e0 0 = true := by decide
theorem enc_leaf : ∃ t, encL 1 [] [] e0 0 = 1 :: t ∧ t.length = 255 := by
  have h := body_len leaf0
  have hb : bodyL 1 [] [] e0 0 = [1, 0] := rfl
  unfold encL
  rw [hb]
  have hp : padL [1, 0] = 1 :: (0 :: List.replicate 250 0) := by unfold padL; rfl
  rw [hp]
  unfold sealL
  refine ⟨(0 :: List.replicate 250 0) ++ four _, rfl, ?_⟩
  rw [List.length_append, four_length, List.length_cons, List.length_replicate]
theorem awake_f (k : Nat) (hk : 50 < k) : sapwoodlaw04_awake.f k = some true := by
  unfold sapwoodlaw04_awake.f
  rw [encode_f 1 [] [] (⟨#[]⟩ : ByteArray) 0 (by simp) (by simp) k (by simp; omega)]
  have h0 := leaf0
  unfold e0 at h0
  rw [if_pos h0, Option.bind_some]
  obtain ⟨t, ht, hl⟩ := enc_leaf
  unfold e0 at ht
  rw [ht, if_pos rfl]
  have h1 : ((1 :: t).length : Int) = 256 := by rw [List.length_cons, hl]; rfl
  rw [if_pos h1, if_pos (by rw [h1]; decide)]
  rfl
theorem few_l1 (kind : Int) (cells : List S64) (kids : List S65) (piece : ByteArray) (next : Int) (hd : kids.length ≤ 40) (d : Nat) : ∀ (k i : Nat), i ≤ kids.length → kids.length - i = d → d < k →
    ∃ b, sapwoodlaw04_few.l1 k (kids.length : Int) (i : Int) kind cells kids piece next = some b := by
  induction d with
  | zero =>
    intro k i hi hd hk
    obtain ⟨k, rfl⟩ : ∃ m, k = m + 1 := ⟨k - 1, by omega⟩
    simp only [sapwoodlaw04_few.l1]
    rw [if_neg (by omega)]
    exact ⟨_, rfl⟩
  | succ d ih =>
    intro k i hi hd hk
    obtain ⟨k, rfl⟩ : ∃ m, k = m + 1 := ⟨k - 1, by omega⟩
    simp only [sapwoodlaw04_few.l1]
    rw [if_pos (by omega), if_pos (by omega), if_pos (by omega)]
    split
    · exact ⟨_, rfl⟩
    · rw [nx_nat i (by omega)]
      exact ih k (i + 1) (by omega) (by omega) (by omega)
theorem few_l0 (kind : Int) (cells : List S64) (kids : List S65) (piece : ByteArray) (next : Int) (hc : cells.length ≤ 40) (hd : kids.length ≤ 40) (d : Nat) : ∀ (k i : Nat), i ≤ cells.length → cells.length - i = d → d + 50 < k →
    ∃ b, sapwoodlaw04_few.l0 k (cells.length : Int) (i : Int) kind cells kids piece next = some b := by
  induction d with
  | zero =>
    intro k i hi hd hk
    obtain ⟨k, rfl⟩ : ∃ m, k = m + 1 := ⟨k - 1, by omega⟩
    simp only [sapwoodlaw04_few.l0]
    rw [if_neg (by omega)]
    exact few_l1 kind cells kids piece next ‹_› _ k 0 (by omega) rfl (by omega)
  | succ d ih =>
    intro k i hi hd hk
    obtain ⟨k, rfl⟩ : ∃ m, k = m + 1 := ⟨k - 1, by omega⟩
    simp only [sapwoodlaw04_few.l0]
    rw [if_pos (by omega), if_pos (by omega), if_pos (by omega)]
    split
    · exact ⟨_, rfl⟩
    · rw [nx_nat i (by omega)]
      exact ih k (i + 1) (by omega) (by omega) (by omega)
theorem few_f (kind : Int) (cells : List S64) (kids : List S65) (piece : ByteArray) (next : Int) (k : Nat) (hk : 200 < k) :
    ∃ b, sapwoodlaw04_few.f k kind cells kids piece next = some b ∧ (b = true → cells.length ≤ 40 ∧ kids.length ≤ 40 ∧ piece.size ≤ 1000) := by
  obtain ⟨k, rfl⟩ : ∃ m, k = m + 1 := ⟨k - 1, by omega⟩
  unfold sapwoodlaw04_few.f
  simp only [sapwoodlaw04_few.j0]
  by_cases h1 : (cells.length : Int) > 40
  · rw [if_pos h1]; exact ⟨false, rfl, fun h => by cases h⟩
  · rw [if_neg h1]
    by_cases h2 : (kids.length : Int) > 40
    · rw [if_pos h2]; exact ⟨false, rfl, fun h => by cases h⟩
    · rw [if_neg h2]
      by_cases h3 : (piece.size : Int) > 1000
      · rw [if_pos (decide_eq_true h3)]; exact ⟨false, rfl, fun h => by cases h⟩
      · rw [if_neg (by simpa using h3)]
        obtain ⟨b, hb⟩ := few_l0 kind cells kids piece next (by omega) (by omega) _ k 0 (by omega) rfl (by omega)
        exact ⟨b, hb, fun _ => by omega⟩
theorem made_l1 (kind : Int) (cells : List S64) (kids : List S65) (piece : ByteArray) (next : Int) (u : Int) (us : List S57) (s : ByteArray) (v : Int) (hd : kids.length ≤ 40) (d : Nat) : ∀ (k i : Nat), i ≤ kids.length → kids.length - i = d → d < k →
    sapwoodlaw04_made.l1 k (kids.length : Int) (i : Int) kind cells kids piece next u us ((kids.take i).map cw) s v = some (u, us, kids.map cw, s, v) := by
  induction d with
  | zero =>
    intro k i hi hd hk
    obtain ⟨k, rfl⟩ : ∃ m, k = m + 1 := ⟨k - 1, by omega⟩
    simp only [sapwoodlaw04_made.l1]
    rw [if_neg (by omega), List.take_of_length_le (by omega)]
  | succ d ih =>
    intro k i hi hd hk
    obtain ⟨k, rfl⟩ : ∃ m, k = m + 1 := ⟨k - 1, by omega⟩
    have hia : i < kids.length := by omega
    simp only [sapwoodlaw04_made.l1]
    rw [if_pos (by omega), if_pos (by omega), if_pos (by omega), if_pos (by rw [List.length_map, List.length_take]; omega), nx_nat i (by omega), rd65 hia]
    have := ih k (i + 1) (by omega) (by omega) (by omega)
    rw [List.take_succ_eq_append_getElem hia, List.map_append] at this
    exact this
theorem made_l0 (kind : Int) (cells : List S64) (kids : List S65) (piece : ByteArray) (next : Int) (u : Int) (s : ByteArray) (v : Int) (hc : cells.length ≤ 40) (hd : kids.length ≤ 40) (d : Nat) : ∀ (k i : Nat), i ≤ cells.length → cells.length - i = d → d + 50 < k →
    sapwoodlaw04_made.l0 k (cells.length : Int) (i : Int) kind cells kids piece next u ((cells.take i).map cv) s v = some (u, cells.map cv, kids.map cw, s, v) := by
  induction d with
  | zero =>
    intro k i hi hd hk
    obtain ⟨k, rfl⟩ : ∃ m, k = m + 1 := ⟨k - 1, by omega⟩
    simp only [sapwoodlaw04_made.l0]
    rw [if_neg (by omega), List.take_of_length_le (by omega)]
    have := made_l1 kind cells kids piece next u (cells.map cv) s v ‹_› _ k 0 (by omega) rfl (by omega)
    simpa using this
  | succ d ih =>
    intro k i hi hd hk
    obtain ⟨k, rfl⟩ : ∃ m, k = m + 1 := ⟨k - 1, by omega⟩
    have hia : i < cells.length := by omega
    simp only [sapwoodlaw04_made.l0]
    rw [if_pos (by omega), if_pos (by omega), if_pos (by omega), if_pos (by rw [List.length_map, List.length_take]; omega), nx_nat i (by omega), rd64 hia]
    have := ih k (i + 1) (by omega) (by omega) (by omega)
    rw [List.take_succ_eq_append_getElem hia, List.map_append] at this
    exact this
theorem made_f (kind : Int) (cells : List S64) (kids : List S65) (piece : ByteArray) (next : Int) (hc : cells.length ≤ 40) (hd : kids.length ≤ 40) (k : Nat) (hk : 200 < k) :
    sapwoodlaw04_made.f k kind cells kids piece next = some (kind, cells.map cv, kids.map cw, piece, next) := by
  unfold sapwoodlaw04_made.f
  have := made_l0 kind cells kids piece next kind piece next hc hd _ k 0 (by omega) rfl (by omega)
  simpa using this
end Go.Proofs.Ytgbcfkcnoncgdaa.Pure
namespace Go.Proofs.Ytgbcfkcnoncgdaa.Pure
open Go.Proofs.Ytgbcfkcnoncgdaa.Hand
open Go.RowKit Go.Proofs.Ytgbcfkcnoncgdaa.Sp Go.Proofs.YtgbcfkcnoncgdaaW.PrintWords Go.Proofs.YtgbcfkcnoncgdaaW.PrintLast Go.Proofs.YtgbcfkcnoncgdaaW.PrintMore
set_option linter.unusedVariables false
theorem true_iff {x : Bool} {p : Prop} (h : x = false ↔ p) : x = true ↔ ¬ p := by
  constructor
  · intro hx hp
    rw [h.2 hp] at hx
    cases hx
  · intro hn
    cases hx : x
    · exact absurd (h.1 hx) hn
    · rfl
theorem diff64 (a b : S64) : (!((a.f0.toList) == (b.f0.toList)) || (!((a.f1.toList) == (b.f1.toList)) || (!(a.f2 == b.f2) || (!(a.f3 == b.f3))))) = true ↔ a ≠ b := by
  refine true_iff ?_
  simp only [Bool.or_eq_false_iff, Bool.not_eq_false', beq_iff_eq, toList_inj]
  obtain ⟨a0, a1, a2, a3⟩ := a
  obtain ⟨b0, b1, b2, b3⟩ := b
  simp only [S64.mk.injEq]
theorem diff65 (a b : S65) : (!((a.f0.toList) == (b.f0.toList)) || (!(a.f1 == b.f1))) = true ↔ a ≠ b := by
  refine true_iff ?_
  simp only [Bool.or_eq_false_iff, Bool.not_eq_false', beq_iff_eq, toList_inj]
  obtain ⟨a0, a1⟩ := a
  obtain ⟨b0, b1⟩ := b
  simp only [S65.mk.injEq]
theorem same_l1 (k1 k2 : Int) (c1 c2 : List S64) (d1 d2 : List S65) (p1 p2 : ByteArray) (n1 n2 : Int) (hl : d1.length = d2.length) (hd : d1.length ≤ 1000000) (d : Nat) : ∀ (k i : Nat), i ≤ d1.length → d1.length - i = d → d < k →
    ∃ b, sapwoodref04_Same.l1 k (d1.length : Int) (i : Int) k1 c1 d1 p1 n1 k2 c2 d2 p2 n2 = some b ∧ (b = true ↔ d1.drop i = d2.drop i) := by
  induction d with
  | zero =>
    intro k i hi he hk
    obtain ⟨k, rfl⟩ : ∃ m, k = m + 1 := ⟨k - 1, by omega⟩
    simp only [sapwoodref04_Same.l1]
    rw [if_neg (by omega), List.drop_of_length_le (by omega), List.drop_of_length_le (by omega)]
    exact ⟨true, rfl, by simp⟩
  | succ d ih =>
    intro k i hi he hk
    obtain ⟨k, rfl⟩ : ∃ m, k = m + 1 := ⟨k - 1, by omega⟩
    have h1 : i < d1.length := by omega
    have h2 : i < d2.length := by omega
    simp only [sapwoodref04_Same.l1]
    rw [if_pos (by omega), if_pos (by omega), if_pos (by omega), if_pos (by omega), rd65 h1, rd65 h2, List.drop_eq_getElem_cons h1, List.drop_eq_getElem_cons h2]
    by_cases e : d1[i] = d2[i]
    · rw [if_neg (fun h => (diff65 _ _).1 h e), nx_nat i (by omega)]
      obtain ⟨b, hb, hb2⟩ := ih k (i + 1) (by omega) (by omega) (by omega)
      exact ⟨b, hb, by rw [hb2, e, List.cons.injEq]; simp only [true_and]⟩
    · rw [if_pos ((diff65 _ _).2 e)]
      exact ⟨false, rfl, ⟨(fun h => by cases h), fun h => absurd (List.cons.inj h).1 e⟩⟩
theorem same_l0 (k1 k2 : Int) (c1 c2 : List S64) (d1 d2 : List S65) (p1 p2 : ByteArray) (n1 n2 : Int) (hl : d1.length = d2.length) (hd : d1.length ≤ 1000000) (hm : c1.length = c2.length) (hc : c1.length ≤ 1000000) (d : Nat) : ∀ (k i : Nat), i ≤ c1.length → c1.length - i = d → d + d1.length + 1 < k →
    ∃ b, sapwoodref04_Same.l0 k (c1.length : Int) (i : Int) k1 c1 d1 p1 n1 k2 c2 d2 p2 n2 = some b ∧ (b = true ↔ (c1.drop i = c2.drop i ∧ d1 = d2)) := by
  induction d with
  | zero =>
    intro k i hi he hk
    obtain ⟨k, rfl⟩ : ∃ m, k = m + 1 := ⟨k - 1, by omega⟩
    simp only [sapwoodref04_Same.l0]
    rw [if_neg (by omega), List.drop_of_length_le (by omega), List.drop_of_length_le (by omega)]
    obtain ⟨b, hb, hb2⟩ := same_l1 k1 k2 c1 c2 d1 d2 p1 p2 n1 n2 hl hd _ k 0 (by omega) rfl (by omega)
    exact ⟨b, hb, by rw [hb2]; simp⟩
  | succ d ih =>
    intro k i hi he hk
    obtain ⟨k, rfl⟩ : ∃ m, k = m + 1 := ⟨k - 1, by omega⟩
    have h1 : i < c1.length := by omega
    have h2 : i < c2.length := by omega
    simp only [sapwoodref04_Same.l0]
    rw [if_pos (by omega), if_pos (by omega), if_pos (by omega), if_pos (by omega), rd64 h1, rd64 h2, List.drop_eq_getElem_cons h1, List.drop_eq_getElem_cons h2]
    by_cases e : c1[i] = c2[i]
    · rw [if_neg (fun h => (diff64 _ _).1 h e), nx_nat i (by omega)]
      obtain ⟨b, hb, hb2⟩ := ih k (i + 1) (by omega) (by omega) (by omega)
      exact ⟨b, hb, by rw [hb2, e, List.cons.injEq]; simp only [true_and]⟩
    · rw [if_pos ((diff64 _ _).2 e)]
      exact ⟨false, rfl, ⟨(fun h => by cases h), fun h => absurd (List.cons.inj h.1).1 e⟩⟩
theorem same_f (k1 k2 : Int) (c1 c2 : List S64) (d1 d2 : List S65) (p1 p2 : ByteArray) (n1 n2 : Int) (hd : d1.length ≤ 1000000) (hc : c1.length ≤ 1000000) (k : Nat) (hk : c1.length + d1.length + 3 < k) :
    ∃ b, sapwoodref04_Same.f k k1 c1 d1 p1 n1 k2 c2 d2 p2 n2 = some b ∧ (b = true ↔ (k1 = k2 ∧ c1 = c2 ∧ d1 = d2 ∧ p1 = p2 ∧ n1 = n2)) := by
  obtain ⟨k, rfl⟩ : ∃ m, k = m + 1 := ⟨k - 1, by omega⟩
  unfold sapwoodref04_Same.f
  simp only [sapwoodref04_Same.j0]
  by_cases e1 : k1 = k2
  · rw [if_pos e1]
    by_cases e2 : p1 = p2
    · rw [if_pos (toList_inj.2 e2)]
      by_cases e3 : n1 = n2
      · rw [if_pos e3]
        by_cases e4 : c1.length = c2.length
        · rw [if_pos (by omega)]
          by_cases e5 : d1.length = d2.length
          · rw [if_neg (by rw [bne_iff_ne]; omega)]
            obtain ⟨b, hb, hb2⟩ := same_l0 k1 k2 c1 c2 d1 d2 p1 p2 n1 n2 e5 hd e4 hc _ k 0 (by omega) rfl (by omega)
            exact ⟨b, hb, by rw [hb2]; simp [e1, e2, e3]⟩
          · rw [if_pos (by rw [bne_iff_ne]; omega)]
            exact ⟨false, rfl, by simp; intro _ _ h; exact absurd (by rw [h]) e5⟩
        · rw [if_neg (by omega), if_pos (by trivial)]
          exact ⟨false, rfl, by simp; intro _ h; exact absurd (by rw [h]) e4⟩
      · rw [if_neg e3, if_pos (by trivial)]
        exact ⟨false, rfl, by simp [e3]⟩
    · rw [if_neg (fun h => e2 (toList_inj.1 h)), if_pos (by trivial)]
      exact ⟨false, rfl, by simp [e2]⟩
  · rw [if_neg e1, if_pos (by trivial)]
    exact ⟨false, rfl, by simp [e1]⟩
end Go.Proofs.Ytgbcfkcnoncgdaa.Pure
namespace Go.Proofs.Ytgbcfkcnoncgdaa.Pure
open Go.Proofs.Ytgbcfkcnoncgdaa.Hand
open Go.RowKit Go.Proofs.Ytgbcfkcnoncgdaa.Sp Go.Proofs.YtgbcfkcnoncgdaaW.PrintWords Go.Proofs.YtgbcfkcnoncgdaaW.PrintLast Go.Proofs.YtgbcfkcnoncgdaaW.PrintMore
set_option linter.unusedVariables false
def vc (c : S57) : S64 := ⟨c.f0, c.f1, c.f2, c.f3⟩
def vw (c : S61) : S65 := ⟨c.f0, c.f1⟩
theorem told_l1 (kind : Int) (cells : List S57) (kids : List S61) (piece : ByteArray) (next : Int) (u : Int) (us : List S64) (s : ByteArray) (v : Int) (hd : kids.length ≤ 1000) (d : Nat) : ∀ (k i : Nat), i ≤ kids.length → kids.length - i = d → d < k →
    sapwoodlaw04_told.l1 k (kids.length : Int) (i : Int) kind cells kids piece next u us ((kids.take i).map vw) s v = some (u, us, kids.map vw, s, v) := by
  induction d with
  | zero =>
    intro k i hi hd hk
    obtain ⟨k, rfl⟩ : ∃ m, k = m + 1 := ⟨k - 1, by omega⟩
    simp only [sapwoodlaw04_told.l1]
    rw [if_neg (by omega), List.take_of_length_le (by omega)]
  | succ d ih =>
    intro k i hi hd hk
    obtain ⟨k, rfl⟩ : ∃ m, k = m + 1 := ⟨k - 1, by omega⟩
    have hia : i < kids.length := by omega
    simp only [sapwoodlaw04_told.l1]
    rw [if_pos (by omega), if_pos (by omega), if_pos (by omega), if_pos (by rw [List.length_map, List.length_take]; omega), nx_nat i (by omega), rd61 hia]
    have := ih k (i + 1) (by omega) (by omega) (by omega)
    rw [List.take_succ_eq_append_getElem hia, List.map_append] at this
    exact this
theorem told_l0 (kind : Int) (cells : List S57) (kids : List S61) (piece : ByteArray) (next : Int) (u : Int) (s : ByteArray) (v : Int) (hc : cells.length ≤ 1000) (hd : kids.length ≤ 1000) (d : Nat) : ∀ (k i : Nat), i ≤ cells.length → cells.length - i = d → d + 1010 < k →
    sapwoodlaw04_told.l0 k (cells.length : Int) (i : Int) kind cells kids piece next u ((cells.take i).map vc) s v = some (u, cells.map vc, kids.map vw, s, v) := by
  induction d with
  | zero =>
    intro k i hi hd hk
    obtain ⟨k, rfl⟩ : ∃ m, k = m + 1 := ⟨k - 1, by omega⟩
    simp only [sapwoodlaw04_told.l0]
    rw [if_neg (by omega), List.take_of_length_le (by omega)]
    have := told_l1 kind cells kids piece next u (cells.map vc) s v ‹_› _ k 0 (by omega) rfl (by omega)
    simpa using this
  | succ d ih =>
    intro k i hi hd hk
    obtain ⟨k, rfl⟩ : ∃ m, k = m + 1 := ⟨k - 1, by omega⟩
    have hia : i < cells.length := by omega
    simp only [sapwoodlaw04_told.l0]
    rw [if_pos (by omega), if_pos (by omega), if_pos (by omega), if_pos (by rw [List.length_map, List.length_take]; omega), nx_nat i (by omega), rd57 hia]
    have := ih k (i + 1) (by omega) (by omega) (by omega)
    rw [List.take_succ_eq_append_getElem hia, List.map_append] at this
    exact this
theorem told_f (kind : Int) (cells : List S57) (kids : List S61) (piece : ByteArray) (next : Int) (hc : cells.length ≤ 1000) (hd : kids.length ≤ 1000) (k : Nat) (hk : 2100 < k) :
    sapwoodlaw04_told.f k kind cells kids piece next = some (kind, cells.map vc, kids.map vw, piece, next) := by
  unfold sapwoodlaw04_told.f
  have := told_l0 kind cells kids piece next kind piece next hc hd _ k 0 (by omega) rfl (by omega)
  simpa using this
theorem same_refl (kind : Int) (cells : List S64) (kids : List S65) (piece : ByteArray) (next : Int) (hc : cells.length ≤ 1000000) (hd : kids.length ≤ 1000000) (k : Nat) (hk : cells.length + kids.length + 3 < k) : sapwoodref04_Same.f k kind cells kids piece next kind cells kids piece next = some true := by
  obtain ⟨b, hb, h⟩ := same_f kind kind cells cells kids kids piece piece next next hd hc k hk
  rw [hb, h.2 ⟨rfl, rfl, rfl, rfl, rfl⟩]
end Go.Proofs.Ytgbcfkcnoncgdaa.Pure
namespace Go.Proofs.Ytgbcfkcnoncgdaa.Pure
open Go.Proofs.Ytgbcfkcnoncgdaa.Hand
open Go.RowKit Go.Proofs.Ytgbcfkcnoncgdaa.Sp Go.Proofs.YtgbcfkcnoncgdaaW.PrintWords Go.Proofs.YtgbcfkcnoncgdaaW.PrintLast Go.Proofs.YtgbcfkcnoncgdaaW.PrintMore
set_option linter.unusedVariables false
theorem rBytes_at (a b c : List Int) (m : Nat) (hb : b.length = m) : rBytes (a ++ b ++ c) ⟨a.length, 0⟩ m = (b, ⟨a.length + m, 0⟩) := by
  unfold rBytes
  rw [if_neg (by simp), if_neg (by simp only [List.length_append]; omega)]
  simp only
  rw [List.append_assoc, List.take_append, List.drop_append]
  simp [hb]
theorem num1_at (a c : List Int) (v : Int) : rNum (a ++ [v] ++ c) ⟨a.length, 0⟩ 1 = (v, ⟨a.length + 1, 0⟩) := by
  unfold rNum
  rw [rBytes_at a [v] c 1 rfl]
  simp [numOf]
theorem num2_at (a c : List Int) (v : Int) (h : 0 ≤ v ∧ v ≤ 65535) : rNum (a ++ num16 v ++ c) ⟨a.length, 0⟩ 2 = (v, ⟨a.length + 2, 0⟩) := by
  unfold rNum
  rw [rBytes_at a (num16 v) c 2 rfl]
  simp only [num16, numOf, List.foldl_cons, List.foldl_nil, Prod.mk.injEq, and_true]
  omega
theorem text_at (a c : List Int) (s : ByteArray) (most : Int) (h : (s.size : Int) ≤ most) (h2 : s.size ≤ 65535) : rText (a ++ textL s ++ c) ⟨a.length, 0⟩ most = (bytesOf s, ⟨a.length + (textL s).length, 0⟩) := by
  have e1 : a ++ textL s ++ c = a ++ num16 (s.size : Int) ++ (bytesOf s ++ c) := by unfold textL; simp only [List.append_assoc]
  have e2 : a ++ textL s ++ c = (a ++ num16 (s.size : Int)) ++ bytesOf s ++ c := by unfold textL; simp only [List.append_assoc]
  have hn := num2_at a (bytesOf s ++ c) (s.size : Int) (by omega)
  rw [← e1] at hn
  have hb := rBytes_at (a ++ num16 (s.size : Int)) (bytesOf s) c s.size (bytesOf_length s)
  rw [← e2, List.length_append, num16_length] at hb
  unfold rText
  rw [hn]
  simp only
  rw [if_neg (by omega), Int.toNat_natCast, hb, textL_length, Nat.add_assoc]
def p57 (c : S57) : CellP := (c.f0, c.f1, c.f2, c.f3)
def p61 (c : S61) : KidP := (c.f0, c.f1)
theorem s57_p57 (l : List S57) : (l.map p57).map s57 = l := by rw [List.map_map]; exact List.map_id' l
theorem s61_p61 (l : List S61) : (l.map p61).map s61 = l := by rw [List.map_map]; exact List.map_id' l
theorem vals {v : ByteArray} {n m : Int} (h : valOk v n m = true) : (n = 0 ∧ m = 0 ∧ v.size ≤ 24) ∨ (v.size = 0 ∧ 25 ≤ n ∧ n ≤ 400 ∧ 2 ≤ m ∧ m ≤ 511) := by
  unfold valOk numOk at h
  simp only [Bool.or_eq_true, Bool.and_eq_true, decide_eq_true_eq] at h
  omega
theorem empty_of {a : ByteArray} (ha : a.size = 0) : a = ⟨#[]⟩ := by
  apply bytesOf_inj
  have h1 := bytesOf_length a
  rw [ha] at h1
  rw [List.length_eq_zero_iff.1 h1]
  rfl
theorem takeC_at (a c : List Int) (x : S57) (hk : keyOk x.f0 = true) (hv : valOk x.f1 x.f2 x.f3 = true) : takeC (a ++ cellL x ++ c) ⟨a.length, 0⟩ = (p57 x, ⟨a.length + (cellL x).length, 0⟩) := by
  have hk2 := keyOk_len hk
  have hvs := vals hv
  obtain ⟨k, v, n, m⟩ := x
  dsimp only at hk hv hk2 hvs ⊢
  unfold p57
  dsimp only
  rcases hvs with ⟨rfl, rfl, hl⟩ | ⟨hl, h1, h2, h3, h4⟩
  · have ec : cellL ⟨k, v, 0, 0⟩ = textL k ++ ([0] ++ textL v) := by unfold cellL; exact congrArg _ (if_pos rfl)
    rw [ec]
    have e1 : a ++ (textL k ++ ([0] ++ textL v)) ++ c = a ++ textL k ++ ([0] ++ textL v ++ c) := by simp only [List.append_assoc]
    have e2 : a ++ (textL k ++ ([0] ++ textL v)) ++ c = (a ++ textL k) ++ [0] ++ (textL v ++ c) := by simp only [List.append_assoc]
    have e3 : a ++ (textL k ++ ([0] ++ textL v)) ++ c = (a ++ textL k ++ [0]) ++ textL v ++ c := by simp only [List.append_assoc]
    have t1 := text_at a ([0] ++ textL v ++ c) k 24 (by omega) (by omega)
    rw [← e1] at t1
    have t2 := num1_at (a ++ textL k) (textL v ++ c) 0
    rw [← e2, List.length_append] at t2
    have t3 := text_at (a ++ textL k ++ [0]) c v 24 (by omega) (by omega)
    rw [← e3, List.length_append, List.length_append, List.length_singleton] at t3
    unfold takeC
    rw [t1]
    dsimp only
    rw [t2]
    dsimp only
    rw [if_pos rfl, t3]
    dsimp only
    rw [str_bytes, str_bytes, List.length_append, List.length_append, List.length_singleton]
    simp only [Nat.add_assoc]
  · have ec : cellL ⟨k, v, n, m⟩ = textL k ++ ([1] ++ num16 n ++ num16 m) := by unfold cellL; exact congrArg _ (if_neg (by show ¬ m = 0; omega))
    rw [ec, empty_of hl]
    have e1 : a ++ (textL k ++ ([1] ++ num16 n ++ num16 m)) ++ c = a ++ textL k ++ ([1] ++ num16 n ++ num16 m ++ c) := by simp only [List.append_assoc]
    have e2 : a ++ (textL k ++ ([1] ++ num16 n ++ num16 m)) ++ c = (a ++ textL k) ++ [1] ++ (num16 n ++ num16 m ++ c) := by simp only [List.append_assoc]
    have e3 : a ++ (textL k ++ ([1] ++ num16 n ++ num16 m)) ++ c = (a ++ textL k ++ [1]) ++ num16 n ++ (num16 m ++ c) := by simp only [List.append_assoc]
    have e4 : a ++ (textL k ++ ([1] ++ num16 n ++ num16 m)) ++ c = (a ++ textL k ++ [1] ++ num16 n) ++ num16 m ++ c := by simp only [List.append_assoc]
    have t1 := text_at a ([1] ++ num16 n ++ num16 m ++ c) k 24 (by omega) (by omega)
    rw [← e1] at t1
    have t2 := num1_at (a ++ textL k) (num16 n ++ num16 m ++ c) 1
    rw [← e2, List.length_append] at t2
    have t3 := num2_at (a ++ textL k ++ [1]) (num16 m ++ c) n (by omega)
    rw [← e3, List.length_append, List.length_append, List.length_singleton] at t3
    have t4 := num2_at (a ++ textL k ++ [1] ++ num16 n) c m (by omega)
    rw [← e4, List.length_append, List.length_append, List.length_append, List.length_singleton, num16_length] at t4
    unfold takeC
    rw [t1]
    dsimp only
    rw [t2]
    dsimp only
    rw [if_neg (by decide), t3]
    dsimp only
    rw [t4]
    dsimp only
    rw [str_bytes, List.length_append, List.length_append, List.length_append, List.length_singleton, num16_length, num16_length]
    simp only [Nat.add_assoc]
theorem takeK_at (a c : List Int) (x : S61) (hk : keyOk x.f0 = true) (hn : numOk x.f1 = true) : takeK (a ++ kidL x ++ c) ⟨a.length, 0⟩ = (p61 x, ⟨a.length + (kidL x).length, 0⟩) := by
  have hk2 := keyOk_len hk
  have hn2 := numOk_num hn
  obtain ⟨k, n⟩ := x
  dsimp only at hk hn hk2 hn2 ⊢
  unfold p61 kidL
  dsimp only
  have e1 : a ++ (textL k ++ num16 n) ++ c = a ++ textL k ++ (num16 n ++ c) := by simp only [List.append_assoc]
  have e2 : a ++ (textL k ++ num16 n) ++ c = (a ++ textL k) ++ num16 n ++ c := by simp only [List.append_assoc]
  have t1 := text_at a (num16 n ++ c) k 24 (by omega) (by omega)
  rw [← e1] at t1
  have t2 := num2_at (a ++ textL k) c n (by omega)
  rw [← e2, List.length_append] at t2
  unfold takeK
  rw [t1]
  dsimp only
  rw [t2]
  dsimp only
  rw [str_bytes, List.length_append, num16_length]
  simp only [Nat.add_assoc]
theorem cellsOk_mem : ∀ (l : List S57) (p : ByteArray), cellsOk p l = true → ∀ x ∈ l, keyOk x.f0 = true ∧ valOk x.f1 x.f2 x.f3 = true
  | [], _, _, _, h => by cases h
  | c :: r, p, h, x, hx => by
    simp only [cellsOk, Bool.and_eq_true] at h
    rcases List.mem_cons.1 hx with rfl | hx
    · exact ⟨h.1.1.1, h.1.2⟩
    · exact cellsOk_mem r _ h.2 x hx
theorem kidsOk_mem : ∀ (l : List S61) (p : ByteArray), kidsOk p l = true → ∀ x ∈ l, keyOk x.f0 = true ∧ numOk x.f1 = true
  | [], _, _, _, h => by cases h
  | c :: r, p, h, x, hx => by
    simp only [kidsOk, Bool.and_eq_true] at h
    rcases List.mem_cons.1 hx with rfl | hx
    · exact ⟨h.1.1.1, h.1.2⟩
    · exact kidsOk_mem r _ h.2 x hx
theorem cellsK_at (a c : List Int) (l : List S57) (h : ∀ x ∈ l, keyOk x.f0 = true ∧ valOk x.f1 x.f2 x.f3 = true) : ∀ k, k ≤ l.length → cellsK (a ++ l.flatMap cellL ++ c) ⟨a.length, 0⟩ k = ((l.take k).map p57, ⟨a.length + ((l.take k).flatMap cellL).length, 0⟩)
  | 0, _ => by simp [cellsK]
  | k + 1, hk => by
    have hkl : k < l.length := by omega
    rw [cellsK, cellsK_at a c l h k (by omega)]
    dsimp only
    have hl : l = l.take k ++ (l[k] :: l.drop (k + 1)) := by rw [← List.drop_eq_getElem_cons hkl, List.take_append_drop]
    have e : a ++ l.flatMap cellL ++ c = (a ++ (l.take k).flatMap cellL) ++ cellL l[k] ++ ((l.drop (k + 1)).flatMap cellL ++ c) := by
      conv => lhs; rw [hl]
      rw [List.flatMap_append, List.flatMap_cons]
      simp only [List.append_assoc]
    have hx := h l[k] (List.getElem_mem hkl)
    have t := takeC_at (a ++ (l.take k).flatMap cellL) ((l.drop (k + 1)).flatMap cellL ++ c) l[k] hx.1 hx.2
    rw [← e, List.length_append] at t
    rw [t]
    dsimp only
    rw [List.take_succ_eq_append_getElem hkl, List.map_append, List.flatMap_append, List.length_append]
    simp only [List.map_cons, List.map_nil, List.flatMap_cons, List.flatMap_nil, List.append_nil, Nat.add_assoc]
theorem kidsK_at (a c : List Int) (l : List S61) (h : ∀ x ∈ l, keyOk x.f0 = true ∧ numOk x.f1 = true) : ∀ k, k ≤ l.length → kidsK (a ++ l.flatMap kidL ++ c) ⟨a.length, 0⟩ k = ((l.take k).map p61, ⟨a.length + ((l.take k).flatMap kidL).length, 0⟩)
  | 0, _ => by simp [kidsK]
  | k + 1, hk => by
    have hkl : k < l.length := by omega
    rw [kidsK, kidsK_at a c l h k (by omega)]
    dsimp only
    have hl : l = l.take k ++ (l[k] :: l.drop (k + 1)) := by rw [← List.drop_eq_getElem_cons hkl, List.take_append_drop]
    have e : a ++ l.flatMap kidL ++ c = (a ++ (l.take k).flatMap kidL) ++ kidL l[k] ++ ((l.drop (k + 1)).flatMap kidL ++ c) := by
      conv => lhs; rw [hl]
      rw [List.flatMap_append, List.flatMap_cons]
      simp only [List.append_assoc]
    have hx := h l[k] (List.getElem_mem hkl)
    have t := takeK_at (a ++ (l.take k).flatMap kidL) ((l.drop (k + 1)).flatMap kidL ++ c) l[k] hx.1 hx.2
    rw [← e, List.length_append] at t
    rw [t]
    dsimp only
    rw [List.take_succ_eq_append_getElem hkl, List.map_append, List.flatMap_append, List.length_append]
    simp only [List.map_cons, List.map_nil, List.flatMap_cons, List.flatMap_nil, List.append_nil, Nat.add_assoc]
theorem parse_pad {kind : Int} {cells : List S57} {kids : List S61} {piece : ByteArray} {next : Int} (h : rightB kind cells kids piece next = true) :
    (parseP (padL (bodyL kind cells kids piece next))).1 = (kind, cells.map p57, kids.map p61, piece, next) ∧ (parseP (padL (bodyL kind cells kids piece next))).2.e = 0 := by
  unfold padL
  generalize List.replicate (252 - (bodyL kind cells kids piece next).length) (0 : Int) = z
  unfold rightB at h
  by_cases h1 : kind = 1
  · subst h1
    rw [if_pos rfl] at h
    simp only [Bool.and_eq_true, decide_eq_true_eq] at h
    obtain ⟨⟨⟨⟨hp, hn⟩, hk⟩, hc⟩, hok⟩ := h
    have hk0 : kids = [] := List.length_eq_zero_iff.1 hk
    subst hk0 hn
    rw [empty_of hp]
    have eb : bodyL 1 cells [] ⟨#[]⟩ 0 ++ z = ([] : List Int) ++ [1] ++ ([(cells.length : Int)] ++ cells.flatMap cellL ++ z) := by
      unfold bodyL
      rw [if_pos rfl, show (1 : Int) % 256 = 1 from rfl, show (cells.length : Int) % 256 = (cells.length : Int) by omega]
      simp
    have eb2 : bodyL 1 cells [] ⟨#[]⟩ 0 ++ z = ([1] : List Int) ++ [(cells.length : Int)] ++ (cells.flatMap cellL ++ z) := by rw [eb]; simp
    have eb3 : bodyL 1 cells [] ⟨#[]⟩ 0 ++ z = ([1, (cells.length : Int)] : List Int) ++ cells.flatMap cellL ++ z := by rw [eb]; simp
    have t1 := num1_at [] ([(cells.length : Int)] ++ cells.flatMap cellL ++ z) 1
    rw [← eb] at t1
    have t2 := num1_at [1] (cells.flatMap cellL ++ z) (cells.length : Int)
    rw [← eb2] at t2
    have t3 := cellsK_at [1, (cells.length : Int)] z cells (cellsOk_mem cells _ hok) cells.length (Nat.le_refl _)
    rw [← eb3, List.take_of_length_le (Nat.le_refl _)] at t3
    rw [parse_leaf (N := cells.length) t1 t2]
    have t4 : cellsK (bodyL 1 cells [] ⟨#[]⟩ 0 ++ z) ⟨([1] : List Int).length + 1, 0⟩ cells.length = _ := t3
    rw [t4]
    exact ⟨rfl, rfl⟩
  rw [if_neg h1] at h
  by_cases h2 : kind = 2
  · subst h2
    rw [if_pos rfl] at h
    simp only [Bool.and_eq_true, decide_eq_true_eq] at h
    obtain ⟨⟨⟨⟨hp, hn⟩, hc⟩, hk⟩, hok⟩ := h
    have hc0 : cells = [] := List.length_eq_zero_iff.1 hc
    subst hc0 hn
    rw [empty_of hp]
    have eb : bodyL 2 [] kids ⟨#[]⟩ 0 ++ z = ([] : List Int) ++ [2] ++ ([(kids.length : Int)] ++ kids.flatMap kidL ++ z) := by
      unfold bodyL
      rw [if_neg (by decide), if_pos rfl, show (2 : Int) % 256 = 2 from rfl, show (kids.length : Int) % 256 = (kids.length : Int) by omega]
      simp
    have eb2 : bodyL 2 [] kids ⟨#[]⟩ 0 ++ z = ([2] : List Int) ++ [(kids.length : Int)] ++ (kids.flatMap kidL ++ z) := by rw [eb]; simp
    have eb3 : bodyL 2 [] kids ⟨#[]⟩ 0 ++ z = ([2, (kids.length : Int)] : List Int) ++ kids.flatMap kidL ++ z := by rw [eb]; simp
    have t1 := num1_at [] ([(kids.length : Int)] ++ kids.flatMap kidL ++ z) 2
    rw [← eb] at t1
    have t2 := num1_at [2] (kids.flatMap kidL ++ z) (kids.length : Int)
    rw [← eb2] at t2
    have t3 := kidsK_at [2, (kids.length : Int)] z kids (kidsOk_mem kids _ hok) kids.length (Nat.le_refl _)
    rw [← eb3, List.take_of_length_le (Nat.le_refl _)] at t3
    rw [parse_branch (N := kids.length) t1 t2]
    have t4 : kidsK (bodyL 2 [] kids ⟨#[]⟩ 0 ++ z) ⟨([2] : List Int).length + 1, 0⟩ kids.length = _ := t3
    rw [t4]
    exact ⟨rfl, rfl⟩
  rw [if_neg h2] at h
  by_cases h3 : kind = 3
  · subst h3
    rw [if_pos rfl] at h
    simp only [Bool.and_eq_true, Bool.or_eq_true, decide_eq_true_eq] at h
    obtain ⟨⟨⟨hc, hk⟩, hp⟩, hn⟩ := h
    have hc0 : cells = [] := List.length_eq_zero_iff.1 hc
    have hk0 : kids = [] := List.length_eq_zero_iff.1 hk
    subst hc0 hk0
    have hnx : 0 ≤ next ∧ next ≤ 65535 := by
      rcases hn with hn | hn
      · omega
      · have := numOk_num hn; omega
    have eb : bodyL 3 [] [] piece next ++ z = ([] : List Int) ++ [3] ++ (textL piece ++ num16 next ++ z) := by
      unfold bodyL
      rw [if_neg (by decide), if_neg (by decide), if_pos rfl, show (3 : Int) % 256 = 3 from rfl]
      simp
    have eb2 : bodyL 3 [] [] piece next ++ z = ([3] : List Int) ++ textL piece ++ (num16 next ++ z) := by rw [eb]; simp
    have eb3 : bodyL 3 [] [] piece next ++ z = (([3] : List Int) ++ textL piece) ++ num16 next ++ z := by rw [eb]; simp
    have t1 := num1_at [] (textL piece ++ num16 next ++ z) 3
    rw [← eb] at t1
    have t2 := text_at [3] (num16 next ++ z) piece 240 (by omega) (by omega)
    rw [← eb2] at t2
    have t3 := num2_at (([3] : List Int) ++ textL piece) z next hnx
    rw [← eb3, List.length_append] at t3
    rw [parse_chain t1 t2 t3, str_bytes]
    exact ⟨rfl, rfl⟩
  rw [if_neg h3] at h
  cases h
theorem dec_enc {kind : Int} {cells : List S57} {kids : List S61} {piece : ByteArray} {next : Int} (h : rightB kind cells kids piece next = true) :
    decL (encL kind cells kids piece next) = ((kind, cells.map p57, kids.map p61, piece, next), 0) := by
  have hl : (encL kind cells kids piece next).length = 256 := by unfold encL; rw [sealL_length, padL_length _ (body_len h)]
  have ht : (encL kind cells kids piece next).take 252 = padL (bodyL kind cells kids piece next) := by
    have := take_seal (padL (bodyL kind cells kids piece next))
    rw [show (sealL (padL (bodyL kind cells kids piece next))).length = 256 from hl] at this
    exact this
  have ho : opened (encL kind cells kids piece next) = true := by unfold encL; exact opened_seal _
  obtain ⟨h1, h2⟩ := parse_pad h
  have hok : okP (parseP (padL (bodyL kind cells kids piece next))).1 (encL kind cells kids piece next) = true := by
    rw [h1]
    unfold okP
    dsimp only
    rw [s57_p57, s61_p61, h, Bool.true_and, decide_eq_true_iff]
  unfold decL
  rw [if_neg (by omega), if_neg (by rw [ho]; decide), ht, if_neg (by rw [h2]; simp), if_pos hok, h1]
end Go.Proofs.Ytgbcfkcnoncgdaa.Pure
namespace Go.Proofs.Ytgbcfkcnoncgdaa.Pure
open Go.Proofs.Ytgbcfkcnoncgdaa.Hand
open Go.RowKit Go.Proofs.Ytgbcfkcnoncgdaa.Sp Go.Proofs.YtgbcfkcnoncgdaaW.PrintWords Go.Proofs.YtgbcfkcnoncgdaaW.PrintLast Go.Proofs.YtgbcfkcnoncgdaaW.PrintMore
set_option linter.unusedVariables false
attribute [local irreducible] textL cellL kidL num16 sealL padL strOfNums decL encL
theorem page_Decode_l (k : Nat) {l : List Int} (hB : l.all isB = true) (hs : l.length ≤ 1000000) : page_Decode.f k l = some ((decL l).1.1, (decL l).1.2.1.map s57, (decL l).1.2.2.1.map s61, (decL l).1.2.2.2.1, (decL l).1.2.2.2.2, (decL l).2) := by
  unfold page_Decode.f
  rw [if_pos ⟨hB, by omega⟩]
theorem dec_other {l : List Int} (hl : l.length ≠ 256) : decL l = (page0, 4) := by unfold decL; rw [if_pos hl]
theorem vc_cv (l : List S64) : (l.map cv).map vc = l := by rw [List.map_map]; exact List.map_id' l
theorem vw_cw (l : List S65) : (l.map cw).map vw = l := by rw [List.map_map]; exact List.map_id' l
theorem back_j1 {l : List Int} (hB : l.all isB = true) (hl : l.length = 256) (x : Int) (hx : 0 ≤ x ∧ x ≤ 255) (k : Nat) : sapwoodlaw04_PageBack.j1 (k + 1) x l ((l.length : Int) != 256) = some true := by
  simp only [sapwoodlaw04_PageBack.j1]
  have h1 : (l.take 255).all isB = true := all_take hB 255
  have h2 : (l ++ [x]).all isB = true := by rw [List.all_append, hB]; simp [isB, hx]
  have hw : wrap64 ((l.length : Int) - 1) = 255 := by rw [wrap_in (by omega) (by omega)]; omega
  rw [if_neg (by rw [hl]; decide), hw, if_pos (by omega), if_pos (by omega), show (255 : Int).toNat = 255 from rfl, page_Decode_l k h1 (by rw [List.length_take]; omega), Option.bind_some, if_pos (by omega), page_Decode_l k h2 (by rw [List.length_append, List.length_singleton]; omega), Option.bind_some]
  dsimp only
  rw [dec_other (l := l.take 255) (by rw [List.length_take]; omega), dec_other (l := l ++ [x]) (by rw [List.length_append, List.length_singleton]; omega)]
  rfl
theorem PageBack (kind : Int) (cells : List S64) (kids : List S65) (piece : ByteArray) (next : Int) (a1 : Int) (w1 : (Lit.int .u8 a1).wf = true) : ∃ k, sapwoodlaw04_PageBack.f k kind cells kids piece next a1 = some true := by
  have b1 : 0 ≤ a1 ∧ a1 ≤ 255 := by
    simp [Lit.wf, IntKind.min, IntKind.max, IntKind.signed, IntKind.bits] at w1
    omega
  refine ⟨10000 + 2, ?_⟩
  unfold sapwoodlaw04_PageBack.f
  rw [awake_f _ (by omega), Option.bind_some, if_pos rfl]
  obtain ⟨b, hb, hs⟩ := few_f kind cells kids piece next (10000 + 2) (by omega)
  rw [hb, Option.bind_some]
  simp only [sapwoodlaw04_PageBack.j0]
  cases b
  · rw [if_pos (by rfl), awake_f _ (by omega)]; rfl
  · obtain ⟨h1, h2, h3⟩ := hs rfl
    have hl1 : (cells.map cv).length = cells.length := List.length_map ..
    have hl2 : (kids.map cw).length = kids.length := List.length_map ..
    rw [if_neg (by decide), made_f kind cells kids piece next h1 h2 10001 (by omega), Option.bind_some]
    dsimp only
    rw [encode_f kind (cells.map cv) (kids.map cw) piece next (by omega) (by omega) 10001 (by omega), Option.bind_some]
    by_cases hr : rightB kind (cells.map cv) (kids.map cw) piece next = true
    · rw [if_pos hr]
      dsimp only
      have hB := encL_by hr
      have hlen : (encL kind (cells.map cv) (kids.map cw) piece next).length = 256 := by unfold encL; rw [sealL_length, padL_length _ (body_len hr)]
      rw [if_pos rfl, page_Decode_l _ hB (by omega), Option.bind_some, dec_enc hr]
      dsimp only
      rw [s57_p57, s61_p61, if_pos rfl, told_f _ _ _ _ _ (by omega) (by omega) 10001 (by omega), Option.bind_some]
      dsimp only
      rw [vc_cv, vw_cw, same_refl _ _ _ _ _ (by omega) (by omega) 10001 (by omega), Option.bind_some, if_pos rfl]
      exact back_j1 hB hlen a1 b1 10000
    · rw [if_neg hr]
      dsimp only
      rw [if_neg (by decide), if_pos rfl, if_pos (by rfl), Option.bind_some]
      dsimp only
      rw [right_f kind (cells.map cv) (kids.map cw) piece next (by omega) (by omega) 10001 (by omega), Option.bind_some]
      have : rightB kind (cells.map cv) (kids.map cw) piece next = false := by simpa using hr
      rw [this]
      rfl
theorem pageBack_walk (kind : Int) (A1 : Option Addr) (c1 : Nat) (cells : List S64) (A2 : Option Addr) (c2 : Nat) (kids : List S65) (piece : ByteArray) (next a1 : Int) (W : World) (hr1 : Kd.C k64 W A1 cells.length cells) (hl1 : cells.length ≤ c1) (hr2 : Kd.C k65 W A2 kids.length kids) (hl2 : kids.length ≤ c2) (w1 : (Lit.int .u8 a1).wf = true) :
    Calls Try.prog 8 #[.agg #[.int .i64 kind, .slice A1 cells.length c1, .slice A2 kids.length c2, .string piece, .int .i64 next], .int .u8 a1] W fun e w' => e = .returned (.bool true) ∧ Below W.heap.size W w' := by
  obtain ⟨k, hk⟩ := PageBack kind cells kids piece next a1 w1
  exact sapwoodlaw04_PageBack.calls k kind A1 c1 cells A2 c2 kids piece next a1 true W hr1 hl1 hr2 hl2 hk
end Go.Proofs.Ytgbcfkcnoncgdaa.Pure
