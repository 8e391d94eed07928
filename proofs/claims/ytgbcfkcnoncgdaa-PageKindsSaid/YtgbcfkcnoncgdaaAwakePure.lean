/- What the laws of the page chapter ask first: awake, few, made. -/
import Derived.Test.YtgbcfkcnoncgdaaEncPure
import Derived.Test.YtgbcfkcnoncgdaaRefRightPure
import Derived.Test.YtgbcfkcnoncgdaaSp7
import Derived.Test.YtgbcfkcnoncgdaaSp8
namespace Go.Proofs.Ytgbcfkcnoncgdaa.Pure
open Go.Proofs.Ytgbcfkcnoncgdaa.Hand
open Go.RowKit Go.Proofs.Ytgbcfkcnoncgdaa.Sp Go.Proofs.YtgbcfkcnoncgdaaW.PrintWords Go.Proofs.YtgbcfkcnoncgdaaW.PrintLast Go.Proofs.YtgbcfkcnoncgdaaW.PrintMore
set_option linter.unusedVariables false

attribute [local irreducible] textL cellL kidL num16 sealL padL strOfNums

theorem leaf0 : rightB 1 [] [] e0 0 = true := by decide
theorem enc_leaf : ∃ t, encL 1 [] [] e0 0 = 1 :: t ∧ t.length = 255 := by
  have h := body_len leaf0
  have hb : bodyL 1 [] [] e0 0 = [1, 0] := rfl
  unfold encL
  rw [hb]
  have hp : padL [1, 0] = 1 :: (0 :: List.replicate 250 0) := by unfold padL; rfl
  rw [hp]
  unfold sealL
  refine ⟨(0 :: List.replicate 250 0) ++ four _, rfl, ?_⟩
  rw [List.length_append, four_length, List.length_cons, List.length_replicate]
theorem awake_f (k : Nat) (hk : 50 < k) : sapwoodlaw04_awake.f k = some true := by
  unfold sapwoodlaw04_awake.f
  rw [encode_f 1 [] [] (⟨#[]⟩ : ByteArray) 0 (by simp) (by simp) k (by simp; omega)]
  have h0 := leaf0
  unfold e0 at h0
  rw [if_pos h0, Option.bind_some]
  obtain ⟨t, ht, hl⟩ := enc_leaf
  unfold e0 at ht
  rw [ht, if_pos rfl]
  have h1 : ((1 :: t).length : Int) = 256 := by rw [List.length_cons, hl]; rfl
  rw [if_pos h1, if_pos (by rw [h1]; decide)]
  rfl

def fewB (cells : List S64) (kids : List S65) (piece : ByteArray) : Bool := decide (cells.length ≤ 40 ∧ kids.length ≤ 40 ∧ piece.size ≤ 1000)
theorem few_l1 (kind : Int) (cells : List S64) (kids : List S65) (piece : ByteArray) (next : Int) (hd : kids.length ≤ 40) (d : Nat) : ∀ (k i : Nat), i ≤ kids.length → kids.length - i = d → d < k →
    ∃ b, sapwoodlaw04_few.l1 k (kids.length : Int) (i : Int) kind cells kids piece next = some b := by
  induction d with
  | zero =>
    intro k i hi hd hk
    obtain ⟨k, rfl⟩ : ∃ m, k = m + 1 := ⟨k - 1, by omega⟩
    simp only [sapwoodlaw04_few.l1]
    rw [if_neg (by omega)]
    exact ⟨_, rfl⟩
  | succ d ih =>
    intro k i hi hd hk
    obtain ⟨k, rfl⟩ : ∃ m, k = m + 1 := ⟨k - 1, by omega⟩
    simp only [sapwoodlaw04_few.l1]
    rw [if_pos (by omega), if_pos (by omega), if_pos (by omega)]
    split
    · exact ⟨_, rfl⟩
    · rw [nx_nat i (by omega)]
      exact ih k (i + 1) (by omega) (by omega) (by omega)
theorem few_l0 (kind : Int) (cells : List S64) (kids : List S65) (piece : ByteArray) (next : Int) (hc : cells.length ≤ 40) (hd : kids.length ≤ 40) (d : Nat) : ∀ (k i : Nat), i ≤ cells.length → cells.length - i = d → d + 50 < k →
    ∃ b, sapwoodlaw04_few.l0 k (cells.length : Int) (i : Int) kind cells kids piece next = some b := by
  induction d with
  | zero =>
    intro k i hi hd hk
    obtain ⟨k, rfl⟩ : ∃ m, k = m + 1 := ⟨k - 1, by omega⟩
    simp only [sapwoodlaw04_few.l0]
    rw [if_neg (by omega)]
    exact few_l1 kind cells kids piece next ‹_› _ k 0 (by omega) rfl (by omega)
  | succ d ih =>
    intro k i hi hd hk
    obtain ⟨k, rfl⟩ : ∃ m, k = m + 1 := ⟨k - 1, by omega⟩
    simp only [sapwoodlaw04_few.l0]
    rw [if_pos (by omega), if_pos (by omega), if_pos (by omega)]
    split
    · exact ⟨_, rfl⟩
    · rw [nx_nat i (by omega)]
      exact ih k (i + 1) (by omega) (by omega) (by omega)
/-- few answers, and where it says yes the page is small. -/
theorem few_f (kind : Int) (cells : List S64) (kids : List S65) (piece : ByteArray) (next : Int) (k : Nat) (hk : 200 < k) :
    ∃ b, sapwoodlaw04_few.f k kind cells kids piece next = some b ∧ (b = true → cells.length ≤ 40 ∧ kids.length ≤ 40 ∧ piece.size ≤ 1000) := by
  obtain ⟨k, rfl⟩ : ∃ m, k = m + 1 := ⟨k - 1, by omega⟩
  unfold sapwoodlaw04_few.f
  simp only [sapwoodlaw04_few.j0]
  by_cases h1 : (cells.length : Int) > 40
  · rw [if_pos h1]; exact ⟨false, rfl, fun h => by cases h⟩
  · rw [if_neg h1]
    by_cases h2 : (kids.length : Int) > 40
    · rw [if_pos h2]; exact ⟨false, rfl, fun h => by cases h⟩
    · rw [if_neg h2]
      by_cases h3 : (piece.size : Int) > 1000
      · rw [if_pos (decide_eq_true h3)]; exact ⟨false, rfl, fun h => by cases h⟩
      · rw [if_neg (by simpa using h3)]
        obtain ⟨b, hb⟩ := few_l0 kind cells kids piece next (by omega) (by omega) _ k 0 (by omega) rfl (by omega)
        exact ⟨b, hb, fun _ => by omega⟩

theorem made_l1 (kind : Int) (cells : List S64) (kids : List S65) (piece : ByteArray) (next : Int) (u : Int) (us : List S57) (s : ByteArray) (v : Int) (hd : kids.length ≤ 40) (d : Nat) : ∀ (k i : Nat), i ≤ kids.length → kids.length - i = d → d < k →
    sapwoodlaw04_made.l1 k (kids.length : Int) (i : Int) kind cells kids piece next u us ((kids.take i).map cw) s v = some (u, us, kids.map cw, s, v) := by
  induction d with
  | zero =>
    intro k i hi hd hk
    obtain ⟨k, rfl⟩ : ∃ m, k = m + 1 := ⟨k - 1, by omega⟩
    simp only [sapwoodlaw04_made.l1]
    rw [if_neg (by omega), List.take_of_length_le (by omega)]
  | succ d ih =>
    intro k i hi hd hk
    obtain ⟨k, rfl⟩ : ∃ m, k = m + 1 := ⟨k - 1, by omega⟩
    have hia : i < kids.length := by omega
    simp only [sapwoodlaw04_made.l1]
    rw [if_pos (by omega), if_pos (by omega), if_pos (by omega), if_pos (by rw [List.length_map, List.length_take]; omega), nx_nat i (by omega), rd65 hia]
    have := ih k (i + 1) (by omega) (by omega) (by omega)
    rw [List.take_succ_eq_append_getElem hia, List.map_append] at this
    exact this
theorem made_l0 (kind : Int) (cells : List S64) (kids : List S65) (piece : ByteArray) (next : Int) (u : Int) (s : ByteArray) (v : Int) (hc : cells.length ≤ 40) (hd : kids.length ≤ 40) (d : Nat) : ∀ (k i : Nat), i ≤ cells.length → cells.length - i = d → d + 50 < k →
    sapwoodlaw04_made.l0 k (cells.length : Int) (i : Int) kind cells kids piece next u ((cells.take i).map cv) s v = some (u, cells.map cv, kids.map cw, s, v) := by
  induction d with
  | zero =>
    intro k i hi hd hk
    obtain ⟨k, rfl⟩ : ∃ m, k = m + 1 := ⟨k - 1, by omega⟩
    simp only [sapwoodlaw04_made.l0]
    rw [if_neg (by omega), List.take_of_length_le (by omega)]
    have := made_l1 kind cells kids piece next u (cells.map cv) s v ‹_› _ k 0 (by omega) rfl (by omega)
    simpa using this
  | succ d ih =>
    intro k i hi hd hk
    obtain ⟨k, rfl⟩ : ∃ m, k = m + 1 := ⟨k - 1, by omega⟩
    have hia : i < cells.length := by omega
    simp only [sapwoodlaw04_made.l0]
    rw [if_pos (by omega), if_pos (by omega), if_pos (by omega), if_pos (by rw [List.length_map, List.length_take]; omega), nx_nat i (by omega), rd64 hia]
    have := ih k (i + 1) (by omega) (by omega) (by omega)
    rw [List.take_succ_eq_append_getElem hia, List.map_append] at this
    exact this
theorem made_f (kind : Int) (cells : List S64) (kids : List S65) (piece : ByteArray) (next : Int) (hc : cells.length ≤ 40) (hd : kids.length ≤ 40) (k : Nat) (hk : 200 < k) :
    sapwoodlaw04_made.f k kind cells kids piece next = some (kind, cells.map cv, kids.map cw, piece, next) := by
  unfold sapwoodlaw04_made.f
  have := made_l0 kind cells kids piece next kind piece next hc hd _ k 0 (by omega) rfl (by omega)
  simpa using this

end Go.Proofs.Ytgbcfkcnoncgdaa.Pure
