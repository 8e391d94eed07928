/- In plain Lean: what the law's functions come to, and that the law answers true. -/
import Derived.Test.YtgbcfkcnoncgdaaHandB
import Derived.Test.YtgbcfkcnoncgdaaHandD
import Derived.Test.YtgbcfkcnoncgdaaSp7
import Derived.Test.YtgbcfkcnoncgdaaSp8
import Derived.Test.YtgbcfkcnoncgdaaSp15
namespace Go.Proofs.Ytgbcfkcnoncgdaa.Pure
open Go.Proofs.Ytgbcfkcnoncgdaa.Hand
open Go.RowKit Go.Proofs.Ytgbcfkcnoncgdaa.Sp Go.Proofs.YtgbcfkcnoncgdaaW.PrintWords Go.Proofs.YtgbcfkcnoncgdaaW.PrintLast Go.Proofs.YtgbcfkcnoncgdaaW.PrintMore
set_option linter.unusedVariables false
attribute [local irreducible] textL cellL kidL num16 sealL padL strOfNums
theorem leaf0 : rightB 1 [] [] e0 0 = true := by decide
theorem enc_leaf : ∃ t, encL 1 [] [] e0 0 = 1 :: t ∧ t.length = 255 := by
  have h := body_len leaf0
  have hb : bodyL 1 [] [] e0 0 = [1, 0] := rfl
  unfold encL
  rw [hb]
  have hp : padL [1, 0] = 1 :: (0 :: List.replicate 250 0) := by unfold padL; rfl
  rw [hp]
  unfold sealL
  refine ⟨(0 :: List.replicate 250 0) ++ four _, rfl, ?_⟩
  rw [List.length_append, four_length, List.length_cons, List.length_replicate]
theorem awake_f (k : Nat) (hk : 50 < k) : sapwoodlaw04_awake.f k = some true := by
  unfold sapwoodlaw04_awake.f
  rw [encode_f 1 [] [] (⟨#[]⟩ : ByteArray) 0 (by simp) (by simp) k (by simp; omega)]
  have h0 := leaf0
  unfold e0 at h0
  rw [if_pos h0, Option.bind_some]
  obtain ⟨t, ht, hl⟩ := enc_leaf
  unfold e0 at ht
  rw [ht, if_pos rfl]
  have h1 : ((1 :: t).length : Int) = 256 := by rw [List.length_cons, hl]; rfl
  rw [if_pos h1, if_pos (by rw [h1]; decide)]
  rfl
end Go.Proofs.Ytgbcfkcnoncgdaa.Pure
namespace Go.Proofs.Ytgbcfkcnoncgdaa.Pure
open Go.Proofs.Ytgbcfkcnoncgdaa.Hand
open Go.RowKit Go.Proofs.Ytgbcfkcnoncgdaa.Sp Go.Proofs.YtgbcfkcnoncgdaaW.PrintWords Go.Proofs.YtgbcfkcnoncgdaaW.PrintLast Go.Proofs.YtgbcfkcnoncgdaaW.PrintMore
set_option linter.unusedVariables false
theorem true_iff {x : Bool} {p : Prop} (h : x = false ↔ p) : x = true ↔ ¬ p := by
  constructor
  · intro hx hp
    rw [h.2 hp] at hx
    cases hx
  · intro hn
    cases hx : x
    · exact absurd (h.1 hx) hn
    · rfl
theorem diff64 (a b : S64) : (!((a.f0.toList) == (b.f0.toList)) || (!((a.f1.toList) == (b.f1.toList)) || (!(a.f2 == b.f2) || (!(a.f3 == b.f3))))) = true ↔ a ≠ b := by
  refine true_iff ?_
  simp only [Bool.or_eq_false_iff, Bool.not_eq_false', beq_iff_eq, toList_inj]
  obtain ⟨a0, a1, a2, a3⟩ := a
  obtain ⟨b0, b1, b2, b3⟩ := b
  simp only [S64.mk.injEq]
theorem diff65 (a b : S65) : (!((a.f0.toList) == (b.f0.toList)) || (!(a.f1 == b.f1))) = true ↔ a ≠ b := by
  refine true_iff ?_
  simp only [Bool.or_eq_false_iff, Bool.not_eq_false', beq_iff_eq, toList_inj]
  obtain ⟨a0, a1⟩ := a
  obtain ⟨b0, b1⟩ := b
  simp only [S65.mk.injEq]
theorem same_l1 (k1 k2 : Int) (c1 c2 : List S64) (d1 d2 : List S65) (p1 p2 : ByteArray) (n1 n2 : Int) (hl : d1.length = d2.length) (hd : d1.length ≤ 1000000) (d : Nat) : ∀ (k i : Nat), i ≤ d1.length → d1.length - i = d → d < k →
    ∃ b, sapwoodref04_Same.l1 k (d1.length : Int) (i : Int) k1 c1 d1 p1 n1 k2 c2 d2 p2 n2 = some b ∧ (b = true ↔ d1.drop i = d2.drop i) := by
  induction d with
  | zero =>
    intro k i hi he hk
    obtain ⟨k, rfl⟩ : ∃ m, k = m + 1 := ⟨k - 1, by omega⟩
    simp only [sapwoodref04_Same.l1]
    rw [if_neg (by omega), List.drop_of_length_le (by omega), List.drop_of_length_le (by omega)]
    exact ⟨true, rfl, by simp⟩
  | succ d ih =>
    intro k i hi he hk
    obtain ⟨k, rfl⟩ : ∃ m, k = m + 1 := ⟨k - 1, by omega⟩
    have h1 : i < d1.length := by omega
    have h2 : i < d2.length := by omega
    simp only [sapwoodref04_Same.l1]
    rw [if_pos (by omega), if_pos (by omega), if_pos (by omega), if_pos (by omega), rd65 h1, rd65 h2, List.drop_eq_getElem_cons h1, List.drop_eq_getElem_cons h2]
    by_cases e : d1[i] = d2[i]
    · rw [if_neg (fun h => (diff65 _ _).1 h e), nx_nat i (by omega)]
      obtain ⟨b, hb, hb2⟩ := ih k (i + 1) (by omega) (by omega) (by omega)
      exact ⟨b, hb, by rw [hb2, e, List.cons.injEq]; simp only [true_and]⟩
    · rw [if_pos ((diff65 _ _).2 e)]
      exact ⟨false, rfl, ⟨(fun h => by cases h), fun h => absurd (List.cons.inj h).1 e⟩⟩
theorem same_l0 (k1 k2 : Int) (c1 c2 : List S64) (d1 d2 : List S65) (p1 p2 : ByteArray) (n1 n2 : Int) (hl : d1.length = d2.length) (hd : d1.length ≤ 1000000) (hm : c1.length = c2.length) (hc : c1.length ≤ 1000000) (d : Nat) : ∀ (k i : Nat), i ≤ c1.length → c1.length - i = d → d + d1.length + 1 < k →
    ∃ b, sapwoodref04_Same.l0 k (c1.length : Int) (i : Int) k1 c1 d1 p1 n1 k2 c2 d2 p2 n2 = some b ∧ (b = true ↔ (c1.drop i = c2.drop i ∧ d1 = d2)) := by
  induction d with
  | zero =>
    intro k i hi he hk
    obtain ⟨k, rfl⟩ : ∃ m, k = m + 1 := ⟨k - 1, by omega⟩
    simp only [sapwoodref04_Same.l0]
    rw [if_neg (by omega), List.drop_of_length_le (by omega), List.drop_of_length_le (by omega)]
    obtain ⟨b, hb, hb2⟩ := same_l1 k1 k2 c1 c2 d1 d2 p1 p2 n1 n2 hl hd _ k 0 (by omega) rfl (by omega)
    exact ⟨b, hb, by rw [hb2]; simp⟩
  | succ d ih =>
    intro k i hi he hk
    obtain ⟨k, rfl⟩ : ∃ m, k = m + 1 := ⟨k - 1, by omega⟩
    have h1 : i < c1.length := by omega
    have h2 : i < c2.length := by omega
    simp only [sapwoodref04_Same.l0]
    rw [if_pos (by omega), if_pos (by omega), if_pos (by omega), if_pos (by omega), rd64 h1, rd64 h2, List.drop_eq_getElem_cons h1, List.drop_eq_getElem_cons h2]
    by_cases e : c1[i] = c2[i]
    · rw [if_neg (fun h => (diff64 _ _).1 h e), nx_nat i (by omega)]
      obtain ⟨b, hb, hb2⟩ := ih k (i + 1) (by omega) (by omega) (by omega)
      exact ⟨b, hb, by rw [hb2, e, List.cons.injEq]; simp only [true_and]⟩
    · rw [if_pos ((diff64 _ _).2 e)]
      exact ⟨false, rfl, ⟨(fun h => by cases h), fun h => absurd (List.cons.inj h.1).1 e⟩⟩
theorem same_f (k1 k2 : Int) (c1 c2 : List S64) (d1 d2 : List S65) (p1 p2 : ByteArray) (n1 n2 : Int) (hd : d1.length ≤ 1000000) (hc : c1.length ≤ 1000000) (k : Nat) (hk : c1.length + d1.length + 3 < k) :
    ∃ b, sapwoodref04_Same.f k k1 c1 d1 p1 n1 k2 c2 d2 p2 n2 = some b ∧ (b = true ↔ (k1 = k2 ∧ c1 = c2 ∧ d1 = d2 ∧ p1 = p2 ∧ n1 = n2)) := by
  obtain ⟨k, rfl⟩ : ∃ m, k = m + 1 := ⟨k - 1, by omega⟩
  unfold sapwoodref04_Same.f
  simp only [sapwoodref04_Same.j0]
  by_cases e1 : k1 = k2
  · rw [if_pos e1]
    by_cases e2 : p1 = p2
    · rw [if_pos (toList_inj.2 e2)]
      by_cases e3 : n1 = n2
      · rw [if_pos e3]
        by_cases e4 : c1.length = c2.length
        · rw [if_pos (by omega)]
          by_cases e5 : d1.length = d2.length
          · rw [if_neg (by rw [bne_iff_ne]; omega)]
            obtain ⟨b, hb, hb2⟩ := same_l0 k1 k2 c1 c2 d1 d2 p1 p2 n1 n2 e5 hd e4 hc _ k 0 (by omega) rfl (by omega)
            exact ⟨b, hb, by rw [hb2]; simp [e1, e2, e3]⟩
          · rw [if_pos (by rw [bne_iff_ne]; omega)]
            exact ⟨false, rfl, by simp; intro _ _ h; exact absurd (by rw [h]) e5⟩
        · rw [if_neg (by omega), if_pos (by trivial)]
          exact ⟨false, rfl, by simp; intro _ h; exact absurd (by rw [h]) e4⟩
      · rw [if_neg e3, if_pos (by trivial)]
        exact ⟨false, rfl, by simp [e3]⟩
    · rw [if_neg (fun h => e2 (toList_inj.1 h)), if_pos (by trivial)]
      exact ⟨false, rfl, by simp [e2]⟩
  · rw [if_neg e1, if_pos (by trivial)]
    exact ⟨false, rfl, by simp [e1]⟩
end Go.Proofs.Ytgbcfkcnoncgdaa.Pure
namespace Go.Proofs.Ytgbcfkcnoncgdaa.Pure
open Go.Proofs.Ytgbcfkcnoncgdaa.Hand
open Go.RowKit Go.Proofs.Ytgbcfkcnoncgdaa.Sp Go.Proofs.YtgbcfkcnoncgdaaW.PrintWords Go.Proofs.YtgbcfkcnoncgdaaW.PrintLast Go.Proofs.YtgbcfkcnoncgdaaW.PrintMore
set_option linter.unusedVariables false
def vc (c : S57) : S64 := ⟨c.f0, c.f1, c.f2, c.f3⟩
def vw (c : S61) : S65 := ⟨c.f0, c.f1⟩
theorem told_l1 (kind : Int) (cells : List S57) (kids : List S61) (piece : ByteArray) (next : Int) (u : Int) (us : List S64) (s : ByteArray) (v : Int) (hd : kids.length ≤ 1000) (d : Nat) : ∀ (k i : Nat), i ≤ kids.length → kids.length - i = d → d < k →
    sapwoodlaw04_told.l1 k (kids.length : Int) (i : Int) kind cells kids piece next u us ((kids.take i).map vw) s v = some (u, us, kids.map vw, s, v) := by
  induction d with
  | zero =>
    intro k i hi hd hk
    obtain ⟨k, rfl⟩ : ∃ m, k = m + 1 := ⟨k - 1, by omega⟩
    simp only [sapwoodlaw04_told.l1]
    rw [if_neg (by omega), List.take_of_length_le (by omega)]
  | succ d ih =>
    intro k i hi hd hk
    obtain ⟨k, rfl⟩ : ∃ m, k = m + 1 := ⟨k - 1, by omega⟩
    have hia : i < kids.length := by omega
    simp only [sapwoodlaw04_told.l1]
    rw [if_pos (by omega), if_pos (by omega), if_pos (by omega), if_pos (by rw [List.length_map, List.length_take]; omega), nx_nat i (by omega), rd61 hia]
    have := ih k (i + 1) (by omega) (by omega) (by omega)
    rw [List.take_succ_eq_append_getElem hia, List.map_append] at this
    exact this
theorem told_l0 (kind : Int) (cells : List S57) (kids : List S61) (piece : ByteArray) (next : Int) (u : Int) (s : ByteArray) (v : Int) (hc : cells.length ≤ 1000) (hd : kids.length ≤ 1000) (d : Nat) : ∀ (k i : Nat), i ≤ cells.length → cells.length - i = d → d + 1010 < k →
    sapwoodlaw04_told.l0 k (cells.length : Int) (i : Int) kind cells kids piece next u ((cells.take i).map vc) s v = some (u, cells.map vc, kids.map vw, s, v) := by
  induction d with
  | zero =>
    intro k i hi hd hk
    obtain ⟨k, rfl⟩ : ∃ m, k = m + 1 := ⟨k - 1, by omega⟩
    simp only [sapwoodlaw04_told.l0]
    rw [if_neg (by omega), List.take_of_length_le (by omega)]
    have := told_l1 kind cells kids piece next u (cells.map vc) s v ‹_› _ k 0 (by omega) rfl (by omega)
    simpa using this
  | succ d ih =>
    intro k i hi hd hk
    obtain ⟨k, rfl⟩ : ∃ m, k = m + 1 := ⟨k - 1, by omega⟩
    have hia : i < cells.length := by omega
    simp only [sapwoodlaw04_told.l0]
    rw [if_pos (by omega), if_pos (by omega), if_pos (by omega), if_pos (by rw [List.length_map, List.length_take]; omega), nx_nat i (by omega), rd57 hia]
    have := ih k (i + 1) (by omega) (by omega) (by omega)
    rw [List.take_succ_eq_append_getElem hia, List.map_append] at this
    exact this
theorem told_f (kind : Int) (cells : List S57) (kids : List S61) (piece : ByteArray) (next : Int) (hc : cells.length ≤ 1000) (hd : kids.length ≤ 1000) (k : Nat) (hk : 2100 < k) :
    sapwoodlaw04_told.f k kind cells kids piece next = some (kind, cells.map vc, kids.map vw, piece, next) := by
  unfold sapwoodlaw04_told.f
  have := told_l0 kind cells kids piece next kind piece next hc hd _ k 0 (by omega) rfl (by omega)
  simpa using this
theorem right_small {kind : Int} {cells : List S57} {kids : List S61} {piece : ByteArray} {next : Int} (h : rightB kind cells kids piece next = true) : cells.length ≤ 4 ∧ kids.length ≤ 6 := by
  unfold rightB at h
  by_cases h1 : kind = 1
  · rw [if_pos h1] at h
    simp only [Bool.and_eq_true, decide_eq_true_eq] at h
    omega
  · rw [if_neg h1] at h
    by_cases h2 : kind = 2
    · rw [if_pos h2] at h
      simp only [Bool.and_eq_true, decide_eq_true_eq] at h
      omega
    · rw [if_neg h2] at h
      by_cases h3 : kind = 3
      · rw [if_pos h3] at h
        simp only [Bool.and_eq_true, decide_eq_true_eq] at h
        omega
      · rw [if_neg h3] at h
        cases h
theorem dec_cases (l : List Int) : ((decL l).2 = 0 ∧ okP (decL l).1 l = true) ∨ ((decL l).2 ≠ 0 ∧ (decL l).1 = page0) := by
  unfold decL
  by_cases h1 : l.length ≠ 256
  · rw [if_pos h1]; exact .inr ⟨by simp, rfl⟩
  rw [if_neg h1]
  by_cases h2 : opened l = false
  · rw [if_pos h2]; exact .inr ⟨by simp, rfl⟩
  rw [if_neg h2]
  by_cases h3 : (parseP (l.take 252)).2.e ≠ 0
  · rw [if_pos h3]; exact .inr ⟨by simp, rfl⟩
  rw [if_neg h3]
  by_cases h4 : okP (parseP (l.take 252)).1 l = true
  · rw [if_pos h4]; exact .inl ⟨rfl, h4⟩
  rw [if_neg h4]; exact .inr ⟨by simp, rfl⟩
theorem ok_parts {p : PageP} {l : List Int} (h : okP p l = true) : rightB p.1 (p.2.1.map s57) (p.2.2.1.map s61) p.2.2.2.1 p.2.2.2.2 = true ∧ encL p.1 (p.2.1.map s57) (p.2.2.1.map s61) p.2.2.2.1 p.2.2.2.2 = l := by
  unfold okP at h
  rw [Bool.and_eq_true] at h
  exact ⟨h.1, of_decide_eq_true h.2⟩
theorem page_Decode_f (k : Nat) (b : ByteArray) (hs : b.size ≤ 1000000) : page_Decode.f k (bytesOf b) = some ((decL (bytesOf b)).1.1, (decL (bytesOf b)).1.2.1.map s57, (decL (bytesOf b)).1.2.2.1.map s61, (decL (bytesOf b)).1.2.2.2.1, (decL (bytesOf b)).1.2.2.2.2, (decL (bytesOf b)).2) := by
  unfold page_Decode.f
  rw [if_pos ⟨bytesOf_all b, by rw [bytesOf_length]; omega⟩]
theorem same_refl (kind : Int) (cells : List S64) (kids : List S65) (piece : ByteArray) (next : Int) (hc : cells.length ≤ 1000000) (hd : kids.length ≤ 1000000) (k : Nat) (hk : cells.length + kids.length + 3 < k) : sapwoodref04_Same.f k kind cells kids piece next kind cells kids piece next = some true := by
  obtain ⟨b, hb, h⟩ := same_f kind kind cells cells kids kids piece piece next next hd hc k hk
  rw [hb, h.2 ⟨rfl, rfl, rfl, rfl, rfl⟩]
end Go.Proofs.Ytgbcfkcnoncgdaa.Pure
namespace Go.Proofs.Ytgbcfkcnoncgdaa.Pure
open Go.Proofs.Ytgbcfkcnoncgdaa.Hand
open Go.RowKit Go.Proofs.Ytgbcfkcnoncgdaa.Sp Go.Proofs.YtgbcfkcnoncgdaaW.PrintWords Go.Proofs.YtgbcfkcnoncgdaaW.PrintLast Go.Proofs.YtgbcfkcnoncgdaaW.PrintMore
set_option linter.unusedVariables false
attribute [local irreducible] textL cellL kidL num16 sealL padL strOfNums decL
theorem PageOne : sapwoodlaw04_PageOne.Pure := by
  intro b hb
  refine ⟨10000 + 1, ?_⟩
  unfold sapwoodlaw04_PageOne.f
  rw [awake_f _ (by omega), Option.bind_some, if_pos rfl]
  simp only [sapwoodlaw04_PageOne.j0]
  by_cases hl : (b.size : Int) > 5000
  · rw [if_pos (decide_eq_true hl), awake_f _ (by omega)]; rfl
  rw [if_neg (by simp only [decide_eq_true_eq]; exact hl), if_pos (by omega), page_Decode_f _ b (by omega), Option.bind_some]
  dsimp only
  have hc := dec_cases (bytesOf b)
  generalize decL (bytesOf b) = D at hc ⊢
  obtain ⟨⟨kind, cells, kids, piece, next⟩, e⟩ := D
  dsimp only at hc ⊢
  rcases hc with ⟨he, hok⟩ | ⟨he, hp⟩
  · obtain ⟨h1, h2⟩ := ok_parts hok
    dsimp only at h1 h2
    have hsm := right_small h1
    rw [if_pos he, encode_f kind (cells.map s57) (kids.map s61) piece next (by omega) (by omega) 10000 (by omega), Option.bind_some, if_pos h1]
    dsimp only
    rw [if_pos rfl, h2, if_pos (by rw [str_bytes]), right_f kind (cells.map s57) (kids.map s61) piece next (by omega) (by omega) 10000 (by omega), Option.bind_some, h1]
  · unfold page0 at hp
    simp only [Prod.mk.injEq] at hp
    obtain ⟨rfl, rfl, rfl, rfl, rfl⟩ := hp
    rw [if_neg he, told_f _ _ _ _ _ (by simp) (by simp) 10000 (by omega), Option.bind_some]
    dsimp only
    rw [List.map_nil, List.map_nil, List.map_nil, List.map_nil, same_refl _ _ _ _ _ (by simp) (by simp) 10000 (by simp), Option.bind_some]
end Go.Proofs.Ytgbcfkcnoncgdaa.Pure
