/- By hand: Decode of the document, for any string (rdecode_any), and, in plain Lean, what its other functions come to. No condition. -/
import Derived.Test.YtgbcfkcnoncgdaaHandB
import Derived.Test.YtgbcfkcnoncgdaaSp12
import Derived.Test.YtgbcfkcnoncgdaaHandA
import Derived.Test.YtgbcfkcnoncgdaaSp16
namespace Go.Proofs.Ytgbcfkcnoncgdaa.Pure
open Go.Proofs.Ytgbcfkcnoncgdaa.Hand
open Go.RowKit Go.Proofs.Ytgbcfkcnoncgdaa.Sp Go.Proofs.YtgbcfkcnoncgdaaW.PrintWords Go.Proofs.YtgbcfkcnoncgdaaW.PrintLast
def cv (c : S64) : S57 := ⟨c.f0, c.f1, c.f2, c.f3⟩
def cw (c : S65) : S61 := ⟨c.f0, c.f1⟩
theorem refCells_j (k : Nat) (l : List S64) (n i : Int) (x : Bool) (a v : ByteArray) (s t : Int) :
    sapwoodref04_cells.j1 (k + 1) l n i x a v s t = if x = true then some false else if valOk v s t = true then sapwoodref04_cells.l0 k l n (wrap64 (i + 1)) else some false := by
  have hv := nil_iff v
  simp only [sapwoodref04_cells.j1]
  rw [refNumber_f]
  simp only [Option.bind_some, hv]
  generalize sapwoodref04_cells.l0 k l n (wrap64 (i + 1)) = R
  unfold valOk
  clear hv
  have hN : numOk t = true → t ≠ 0 := fun h e => by rw [e] at h; simp [numOk] at h
  have hz : ((v.size : Int) ≤ 24) ↔ v.size ≤ 24 := by omega
  have hs : (s ≥ 25) ↔ 25 ≤ s := Iff.rfl
  simp only [hz, hs]
  clear hz hs
  generalize v.size = z
  cases x
  · generalize numOk t = N at hN
    by_cases h3 : z = 0
    · subst h3
      by_cases h1 : s = 0
      · subst h1; by_cases h2 : t = 0 <;> simp [h2]
      · by_cases h5 : 25 ≤ s <;> by_cases h6 : s ≤ 400 <;> cases N <;> simp [h1, h5, h6]
    · by_cases h4 : z ≤ 24
      · by_cases h1 : s = 0
        · subst h1; by_cases h2 : t = 0 <;> simp [h2, h3, h4]
        · simp [h1, h3, h4]
      · simp [h3, h4]
  · simp
theorem getElem_pos_map {l : List S64} {i : Nat} (h : i < l.length) : (l.map cv).drop i = cv l[i] :: (l.map cv).drop (i + 1) := by
  rw [List.drop_eq_getElem_cons (by simpa using h)]; simp
theorem getElem_pos_map' {l : List S65} {i : Nat} (h : i < l.length) : (l.map cw).drop i = cw l[i] :: (l.map cw).drop (i + 1) := by
  rw [List.drop_eq_getElem_cons (by simpa using h)]; simp
theorem refCells_loop (l : List S64) (hl : l.length ≤ 1000000) (d : Nat) : ∀ (k : Nat) (p : ByteArray) (i : Nat), i ≤ l.length → l.length - i = d → 2 * d < k → (i = 0 ∧ p = e0 ∨ ∃ h : 0 < i ∧ i - 1 < l.length, p = (l[i - 1]'h.2).f0) →
    sapwoodref04_cells.l0 k l (l.length : Int) (i : Int) = some (cellsOk p ((l.map cv).drop i)) := by
  induction d with
  | zero =>
    intro k p i hi hd hk hp
    obtain ⟨k, rfl⟩ : ∃ m, k = m + 1 := ⟨k - 1, by omega⟩
    simp only [sapwoodref04_cells.l0]
    rw [if_neg (by omega), List.drop_of_length_le (by simp; omega)]
    rfl
  | succ d ih =>
    intro k p i hi hd hk hp
    obtain ⟨k, rfl⟩ : ∃ m, k = m + 2 := ⟨k - 2, by omega⟩
    have hia : i < l.length := by omega
    have ih' := ih k l[i].f0 (i + 1) (by omega) (by omega) (by omega) (Or.inr ⟨⟨by omega, by simpa using hia⟩, by simp⟩)
    simp only [sapwoodref04_cells.l0, refCells_j]
    rw [if_pos (by omega), if_pos (by omega), if_pos (by omega), rd64 hia, getElem_pos_map hia]
    obtain ⟨m, hm, hm2⟩ := refKey_f l[i].f0
    have hnx : wrap64 ((i : Int) + 1) = ((i + 1 : Nat) : Int) := by rw [wrap_in (by omega) (by omega)]; omega
    rw [hm, hnx, ih']
    simp only [Option.bind_some, cellsOk]
    show _ = some (keyOk l[i].f0 && less p l[i].f0 && valOk l[i].f1 l[i].f2 l[i].f3 && cellsOk l[i].f0 ((l.map cv).drop (i + 1)))
    generalize cellsOk l[i].f0 ((l.map cv).drop (i + 1)) = C
    by_cases h1 : m = 0
    · have hk1 := hm2.1 h1
      rw [if_pos h1, hk1]
      rcases hp with ⟨h0, rfl⟩ | ⟨h0, rfl⟩
      · rw [if_neg (by omega), less_e0 _ hk1]
        by_cases h3 : valOk l[i].f1 l[i].f2 l[i].f3 = true
        · simp [h3]
        · simp [h3]
      · have hpr : wrap64 ((i : Int) - 1) = ((i - 1 : Nat) : Int) := by rw [wrap_in (by omega) (by omega)]; omega
        rw [hpr, if_pos (by omega), if_pos (by omega), if_pos (by omega), rd64 h0.2]
        show (if (!(less (l[i - 1]'h0.2).f0 l[i].f0)) = true then _ else _) = _
        generalize less (l[i - 1]'h0.2).f0 l[i].f0 = L
        by_cases h3 : valOk l[i].f1 l[i].f2 l[i].f3 = true
        · cases L <;> simp [h3]
        · cases L <;> simp [h3]
    · have : keyOk l[i].f0 = false := by
        rw [← Bool.not_eq_true]; exact fun h => h1 (hm2.2 h)
      rw [if_neg h1, this]; simp
theorem refCells_f (l : List S64) (hl : l.length ≤ 1000000) (k : Nat) (hk : 2 * l.length < k) : sapwoodref04_cells.f k l = some (decide (l.length ≤ 4) && cellsOk e0 (l.map cv)) := by
  have := refCells_loop l hl l.length k e0 0 (by omega) (by omega) hk (Or.inl ⟨rfl, rfl⟩)
  unfold sapwoodref04_cells.f
  by_cases h : l.length ≤ 4
  · rw [if_neg (by omega)]; simpa [h] using this
  · rw [if_pos (by omega)]; simp [h]
theorem refKids_loop (l : List S65) (hl : l.length ≤ 1000000) (d : Nat) : ∀ (k : Nat) (p : ByteArray) (i : Nat), i ≤ l.length → l.length - i = d → d < k → (i = 0 ∧ p = e0 ∨ ∃ h : 0 < i ∧ i - 1 < l.length, p = (l[i - 1]'h.2).f0) →
    sapwoodref04_kids.l0 k l (l.length : Int) (i : Int) = some (kidsOk p ((l.map cw).drop i)) := by
  induction d with
  | zero =>
    intro k p i hi hd hk hp
    obtain ⟨k, rfl⟩ : ∃ m, k = m + 1 := ⟨k - 1, by omega⟩
    simp only [sapwoodref04_kids.l0]
    rw [if_neg (by omega), List.drop_of_length_le (by simp; omega)]
    rfl
  | succ d ih =>
    intro k p i hi hd hk hp
    obtain ⟨k, rfl⟩ : ∃ m, k = m + 1 := ⟨k - 1, by omega⟩
    have hia : i < l.length := by omega
    have ih' := ih k l[i].f0 (i + 1) (by omega) (by omega) (by omega) (Or.inr ⟨⟨by omega, by simpa using hia⟩, by simp⟩)
    simp only [sapwoodref04_kids.l0]
    rw [if_pos (by omega), if_pos (by omega), if_pos (by omega), rd65 hia, getElem_pos_map' hia]
    obtain ⟨m, hm, hm2⟩ := refKey_f l[i].f0
    have hnx : wrap64 ((i : Int) + 1) = ((i + 1 : Nat) : Int) := by rw [wrap_in (by omega) (by omega)]; omega
    rw [hm, hnx, ih', refNumber_f]
    simp only [Option.bind_some, kidsOk]
    show _ = some (keyOk l[i].f0 && less p l[i].f0 && numOk l[i].f1 && kidsOk l[i].f0 ((l.map cw).drop (i + 1)))
    generalize kidsOk l[i].f0 ((l.map cw).drop (i + 1)) = C
    by_cases h1 : m = 0
    · have hk1 := hm2.1 h1
      rw [if_pos h1, hk1]
      rcases hp with ⟨h0, rfl⟩ | ⟨h0, rfl⟩
      · rw [if_neg (by omega), less_e0 _ hk1]
        by_cases h3 : numOk l[i].f1 = true
        · simp [h3]
        · simp [h3]
      · have hpr : wrap64 ((i : Int) - 1) = ((i - 1 : Nat) : Int) := by rw [wrap_in (by omega) (by omega)]; omega
        rw [hpr, if_pos (by omega), if_pos (by omega), if_pos (by omega), rd65 h0.2]
        show (if less (l[i - 1]'h0.2).f0 l[i].f0 = true then _ else _) = _
        generalize less (l[i - 1]'h0.2).f0 l[i].f0 = L
        by_cases h3 : numOk l[i].f1 = true
        · cases L <;> simp [h3]
        · cases L <;> simp [h3]
    · have : keyOk l[i].f0 = false := by
        rw [← Bool.not_eq_true]; exact fun h => h1 (hm2.2 h)
      rw [if_neg h1, this]; simp
theorem refKids_f (l : List S65) (hl : l.length ≤ 1000000) (k : Nat) (hk : l.length + 1 < k) : sapwoodref04_kids.f k l = some (decide (2 ≤ l.length ∧ l.length ≤ 6) && kidsOk e0 (l.map cw)) := by
  obtain ⟨k, rfl⟩ : ∃ m, k = m + 1 := ⟨k - 1, by omega⟩
  have := refKids_loop l hl l.length k e0 0 (by omega) (by omega) (by omega) (Or.inl ⟨rfl, rfl⟩)
  unfold sapwoodref04_kids.f
  simp only [sapwoodref04_kids.j0]
  have h0 : ((0 : Nat) : Int) = 0 := rfl
  rw [h0] at this
  rw [this, List.drop_zero]
  by_cases h : l.length < 2
  · rw [if_pos (by omega)]
    have : ¬ (2 ≤ l.length ∧ l.length ≤ 6) := by omega
    simp [this]
  · rw [if_neg (by omega)]
    by_cases h6 : l.length ≤ 6
    · have h1 : (2 ≤ l.length ∧ l.length ≤ 6) := by omega
      have h2 : ¬ ((l.length : Int) > 6) := by omega
      simp [h1, h2]
    · have h1 : ¬ (2 ≤ l.length ∧ l.length ≤ 6) := by omega
      have h2 : ((l.length : Int) > 6) := by omega
      simp [h1, h2]
theorem refRight_f (kind : Int) (cells : List S64) (kids : List S65) (piece : ByteArray) (next : Int) (hc : cells.length ≤ 1000000) (hd : kids.length ≤ 1000000) (k : Nat) (hk : 2 * cells.length + kids.length + 3 < k) :
    sapwoodref04_Right.f k kind cells kids piece next = some (rightB kind (cells.map cv) (kids.map cw) piece next) := by
  obtain ⟨k, rfl⟩ : ∃ m, k = m + 1 := ⟨k - 1, by omega⟩
  have hv := nil_iff piece
  unfold sapwoodref04_Right.f rightB
  simp only [sapwoodref04_Right.j0]
  rw [refCells_f cells hc k (by omega), refKids_f kids hd k (by omega), refNumber_f]
  simp only [Option.bind_some, List.length_map]
  generalize cellsOk e0 _ = C
  generalize kidsOk e0 _ = D
  simp only [hv]
  clear hv hc hd hk
  generalize numOk next = N
  generalize piece.size = z
  generalize cells.length = a
  generalize kids.length = b
  have ha : ((a : Int) == 0) = decide (a = 0) := by
    rw [Bool.eq_iff_iff, beq_iff_eq, decide_eq_true_eq]; omega
  have hb : ((b : Int) == 0) = decide (b = 0) := by
    rw [Bool.eq_iff_iff, beq_iff_eq, decide_eq_true_eq]; omega
  have hz : ((z : Int) ≤ 240) ↔ z ≤ 240 := by omega
  have hy : ((z : Int) ≥ 1) ↔ 1 ≤ z := by omega
  simp only [ha, hb, hz, hy]
  clear ha hb hz hy
  by_cases h1 : kind = 1
  · subst h1
    by_cases h3 : z = 0 <;> by_cases h4 : next = 0 <;> by_cases h5 : b = 0 <;> by_cases h6 : a ≤ 4 <;> cases C <;> simp [h3, h4, h5, h6]
  · by_cases h2 : kind = 2
    · subst h2
      by_cases h3 : z = 0 <;> by_cases h4 : next = 0 <;> by_cases h5 : a = 0 <;> cases D <;> simp [h3, h4, h5]
    · by_cases h2' : kind = 3
      · subst h2'
        by_cases h3 : z = 0
        · by_cases h4 : next = 0 <;> by_cases h5 : a = 0 <;> by_cases h6 : b = 0 <;> simp [h3, h4, h5, h6]
        · have h8 : 1 ≤ z := by omega
          by_cases h4 : next = 0 <;> by_cases h5 : a = 0 <;> by_cases h6 : b = 0 <;> by_cases h7 : z ≤ 240 <;> simp [h3, h4, h5, h6, h7, h8]
      · by_cases h3 : z = 0 <;> simp [h1, h2, h2', h3]
end Go.Proofs.Ytgbcfkcnoncgdaa.Pure
namespace Go.Proofs.Ytgbcfkcnoncgdaa.Pure
open Go.Proofs.Ytgbcfkcnoncgdaa.Hand
open Go.RowKit Go.Proofs.Ytgbcfkcnoncgdaa.Sp Go.Proofs.YtgbcfkcnoncgdaaW.PrintWords Go.Proofs.YtgbcfkcnoncgdaaW.PrintLast Go.Proofs.YtgbcfkcnoncgdaaW.PrintMore
set_option linter.unusedVariables false
theorem i64_and_nat (a b : Nat) (ha : a < 9223372036854775808) (hb : b < 9223372036854775808) : bits .and .i64 (a : Int) (b : Int) = ((a &&& b : Nat) : Int) := by
  have hx : a &&& b < 2 ^ 63 := Nat.and_lt_two_pow _ (by omega)
  show IntKind.i64.wrap ((BitVec.ofInt 64 (a : Int) &&& BitVec.ofInt 64 (b : Int)).toNat : Int) = _
  rw [BitVec.toNat_and, ofInt_i64 a ha, ofInt_i64 b hb, IntKind.wrap_i64]
  omega
theorem and255 (x : Int) (h0 : 0 ≤ x) (h1 : x < 9223372036854775808) : bits .and .i64 x 255 = x % 256 := by
  obtain ⟨m, rfl⟩ := Int.eq_ofNat_of_zero_le h0
  rw [show (255 : Int) = ((255 : Nat) : Int) from rfl, i64_and_nat m 255 (by omega) (by omega), Nat.and_two_pow_sub_one_eq_mod m 8]
  omega
theorem str_size (l : List Int) : (strOfNums l).size = l.length := by
  rw [← data_length]; simp [strOfNums]
theorem num1_f (v : Int) (h0 : 0 ≤ v) (h1 : v < 9223372036854775808) (k : Nat) (hk : 2 < k) : sapwoodref01_Number.f k v 1 = some (strOfNums [v % 256]) := by
  obtain ⟨k, rfl⟩ : ∃ m, k = m + 2 := ⟨k - 2, by omega⟩
  unfold sapwoodref01_Number.f
  simp only [sapwoodref01_Number.l0]
  have w1 : wrap64 (0 + 1) = 1 := by rw [wrap_in (by omega) (by omega)]; rfl
  rw [w1, and255 v h0 h1, if_pos (by decide), Option.bind_some, if_pos (by rw [str_size]; show 1 + 0 ≤ 9223372036854775807; omega), if_neg (by decide)]
  congr 1
  rw [show (⟨#[]⟩ : ByteArray) = strOfNums [] from rfl, ← str_append]
  congr 1
  simp only [List.append_nil]
  congr 1
  omega
theorem num2_f (v : Int) (h0 : 0 ≤ v) (h1 : v < 9223372036854775808) (k : Nat) (hk : 3 < k) : sapwoodref01_Number.f k v 2 = some (strOfNums (num16 v)) := by
  obtain ⟨k, rfl⟩ : ∃ m, k = m + 3 := ⟨k - 3, by omega⟩
  unfold sapwoodref01_Number.f
  simp only [sapwoodref01_Number.l0]
  have w1 : wrap64 (0 + 1) = 1 := by rw [wrap_in (by omega) (by omega)]; rfl
  have w2 : wrap64 (1 + 1) = 2 := by rw [wrap_in (by omega) (by omega)]; rfl
  rw [w1, w2, and255 v h0 h1, and255 (v / 256) (by omega) (by omega), if_pos (by decide), Option.bind_some, if_pos (by rw [str_size]; show 1 + 0 ≤ 9223372036854775807; omega), if_pos (by decide), Option.bind_some]
  have e : strOfNums [v % 256 % 256] ++ (⟨#[]⟩ : ByteArray) = strOfNums [v % 256] := by
    rw [show (⟨#[]⟩ : ByteArray) = strOfNums [] from rfl, ← str_append]
    congr 1
    simp only [List.append_nil]
    congr 1
    omega
  rw [e, if_pos (by rw [str_size, str_size]; show 1 + 1 ≤ 9223372036854775807; omega), if_neg (by decide), ← str_append]
  congr 2
  unfold num16
  simp only [List.cons_append, List.nil_append]
  congr 1
  omega
theorem text_f (s : ByteArray) (hs : s.size ≤ 65535) (k : Nat) (hk : 3 < k) : sapwoodref01_Text.f k s = some (strOfNums (textL s)) := by
  unfold sapwoodref01_Text.f
  rw [if_neg (by omega), num2_f _ (by omega) (by omega) k hk, Option.bind_some, if_pos (by rw [str_size, num16_length]; omega)]
  unfold textL
  rw [str_append, str_bytes]
theorem byte0 : (⟨#[0]⟩ : ByteArray) = strOfNums [0] := rfl
theorem byte1 : (⟨#[1]⟩ : ByteArray) = strOfNums [1] := rfl
theorem padL_snoc (x : List Int) (h : x.length < 252) : padL (x ++ [0]) = padL x := by
  unfold padL
  obtain ⟨n, hn⟩ : ∃ n, 252 - x.length = n + 1 := ⟨252 - x.length - 1, by omega⟩
  rw [List.length_append, List.length_singleton, hn, show 252 - (x.length + 1) = n by omega, List.replicate_succ, List.append_assoc]
  rfl
theorem pad_loop (d : Nat) : ∀ (k : Nat) (x : List Int), x.length ≤ 252 → 252 - x.length = d → d + 3000 < k → x.all isB = true → sapwoodref04_Bytes.l2 k (strOfNums x) = some (strOfNums (sealL (padL x))) := by
  induction d with
  | zero =>
    intro k x hx hd hk hB
    obtain ⟨k, rfl⟩ : ∃ m, k = m + 1 := ⟨k - 1, by omega⟩
    rw [sapwoodref04_Bytes.l2.eq_def]
    simp only []
    rw [if_neg (by rw [str_size]; omega), refSeal_f _ (by rw [str_size]; omega) k (by rw [str_size]; omega), Option.bind_some, bytes_str hB]
    have : padL x = x := by unfold padL; rw [show 252 - x.length = 0 by omega]; simp
    rw [this]
  | succ d ih =>
    intro k x hx hd hk hB
    obtain ⟨k, rfl⟩ : ∃ m, k = m + 1 := ⟨k - 1, by omega⟩
    rw [sapwoodref04_Bytes.l2.eq_def]
    simp only []
    rw [if_pos (by rw [str_size]; omega), if_pos (by rw [str_size]; omega), byte0, ← str_append,
      ih k (x ++ [0]) (by rw [List.length_append]; simp; omega) (by rw [List.length_append]; simp; omega) (by omega) (by rw [List.all_append, hB]; rfl), padL_snoc x (by omega)]
theorem pad_j (k : Nat) (x : List Int) (hx : x.length ≤ 252) (hk : 4000 < k) (hB : x.all isB = true) : sapwoodref04_Bytes.j2 k (strOfNums x) = some (strOfNums (sealL (padL x))) := by
  obtain ⟨k, rfl⟩ : ∃ m, k = m + 1 := ⟨k - 1, by omega⟩
  simp only [sapwoodref04_Bytes.j2]
  exact pad_loop _ k x hx rfl (by omega) hB
theorem valOk_num {v : ByteArray} {n m : Int} (h : valOk v n m = true) (hm : m ≠ 0) : 0 ≤ n ∧ n ≤ 400 ∧ 0 ≤ m ∧ m ≤ 511 := by
  unfold valOk numOk at h
  simp only [Bool.or_eq_true, Bool.and_eq_true, decide_eq_true_eq] at h
  omega
theorem kidL_cw (c : S65) : kidL (cw c) = textL c.f0 ++ num16 c.f1 := rfl
attribute [local irreducible] textL cellL kidL num16 sealL padL strOfNums
theorem refEnc_cells (cells : List S64) (kind : Int) (kids : List S65) (piece : ByteArray) (next : Int) (hc : cells.length ≤ 4) (d : Nat) : ∀ (k : Nat) (x : List Int) (p : ByteArray) (i : Nat), i ≤ cells.length → cells.length - i = d → d + 4100 < k →
    cellsOk p ((cells.map cv).drop i) = true → x.all isB = true → x.length + (((cells.map cv).drop i).flatMap cellL).length ≤ 252 →
    sapwoodref04_Bytes.l0 k (strOfNums x) (cells.length : Int) (i : Int) kind cells kids piece next = some (strOfNums (sealL (padL (x ++ ((cells.map cv).drop i).flatMap cellL)))) := by
  induction d with
  | zero =>
    intro k x p i hi hd hk ho hx hl
    obtain ⟨k, rfl⟩ : ∃ m, k = m + 1 := ⟨k - 1, by omega⟩
    simp only [sapwoodref04_Bytes.l0]
    have hdr : (cells.map cv).drop i = [] := List.drop_of_length_le (by simp; omega)
    rw [hdr] at hl ⊢
    rw [if_neg (by omega)]
    simp only [List.flatMap_nil, List.append_nil] at hl ⊢
    exact pad_j k x hl (by omega) hx
  | succ d ih =>
    intro k x p i hi hd hk ho hx hl
    obtain ⟨k, rfl⟩ : ∃ m, k = m + 1 := ⟨k - 1, by omega⟩
    have hia : i < cells.length := by omega
    simp only [sapwoodref04_Bytes.l0]
    rw [if_pos (by omega), if_pos (by omega), if_pos (by omega), rd64 hia]
    rw [getElem_pos_map hia] at ho hl ⊢
    simp only [cellsOk, Bool.and_eq_true] at ho
    rw [List.flatMap_cons, List.length_append] at hl
    have ho1 : keyOk cells[i].f0 = true := ho.1.1.1
    have ho2 : valOk cells[i].f1 cells[i].f2 cells[i].f3 = true := ho.1.2
    have hk1 := keyOk_len ho1
    have hk2 := valOk_len ho2
    have t1 := textL_length cells[i].f0
    have t2 := textL_length cells[i].f1
    have hx0 : x.length ≤ 252 := by omega
    have fin := ih k (x ++ cellL (cv cells[i])) _ (i + 1) (by omega) (by omega) (by omega) ho.2 (by rw [List.all_append, hx, cellL_all]; rfl) (by rw [List.length_append]; omega)
    rw [List.append_assoc] at fin
    rw [List.flatMap_cons]
    rw [nx_nat i (by omega), text_f _ (by omega) k (by omega), Option.bind_some, if_pos (by rw [str_size, str_size]; omega), byte0, byte1]
    by_cases h : cells[i].f3 = 0
    · have hcell : cellL (cv cells[i]) = textL cells[i].f0 ++ ([0] ++ textL cells[i].f1) := by
        unfold cellL; exact congrArg _ (if_pos h)
      rw [if_pos h, ← str_append, ← str_append, text_f _ (by omega) k (by omega), Option.bind_some, if_pos (by rw [str_size, List.length_append]; omega),
        if_pos (by rw [str_size, str_size, List.length_append, List.length_append]; simp; omega), ← str_append]
      have e : x ++ textL cells[i].f0 ++ [0] ++ textL cells[i].f1 = x ++ cellL (cv cells[i]) := by rw [hcell]; simp
      rw [e]
      exact fin
    · have hcell : cellL (cv cells[i]) = textL cells[i].f0 ++ ([1] ++ num16 cells[i].f2 ++ num16 cells[i].f3) := by
        unfold cellL; exact congrArg _ (if_neg h)
      have hv := valOk_num ho2 h
      rw [if_neg h, ← str_append, ← str_append, num2_f _ hv.1 (by omega) k (by omega), num2_f _ hv.2.2.1 (by omega) k (by omega), Option.bind_some, if_pos (by rw [str_size, List.length_append]; omega),
        if_pos (by rw [str_size, str_size, List.length_append, List.length_append, num16_length]; simp; omega), ← str_append, Option.bind_some,
        if_pos (by simp only [str_size, List.length_append, num16_length, List.length_cons, List.length_nil]; omega), ← str_append]
      have e : x ++ textL cells[i].f0 ++ [1] ++ num16 cells[i].f2 ++ num16 cells[i].f3 = x ++ cellL (cv cells[i]) := by rw [hcell]; simp
      rw [e]
      exact fin
theorem refEnc_kids (cells : List S64) (kind : Int) (kids : List S65) (piece : ByteArray) (next : Int) (hc : kids.length ≤ 6) (d : Nat) : ∀ (k : Nat) (x : List Int) (p : ByteArray) (i : Nat), i ≤ kids.length → kids.length - i = d → d + 4100 < k →
    kidsOk p ((kids.map cw).drop i) = true → x.all isB = true → x.length + (((kids.map cw).drop i).flatMap kidL).length ≤ 252 →
    sapwoodref04_Bytes.l1 k (strOfNums x) (kids.length : Int) (i : Int) kind cells kids piece next = some (strOfNums (sealL (padL (x ++ ((kids.map cw).drop i).flatMap kidL)))) := by
  induction d with
  | zero =>
    intro k x p i hi hd hk ho hx hl
    obtain ⟨k, rfl⟩ : ∃ m, k = m + 1 := ⟨k - 1, by omega⟩
    simp only [sapwoodref04_Bytes.l1]
    have hdr : (kids.map cw).drop i = [] := List.drop_of_length_le (by simp; omega)
    rw [hdr] at hl ⊢
    rw [if_neg (by omega)]
    simp only [List.flatMap_nil, List.append_nil] at hl ⊢
    exact pad_j k x hl (by omega) hx
  | succ d ih =>
    intro k x p i hi hd hk ho hx hl
    obtain ⟨k, rfl⟩ : ∃ m, k = m + 1 := ⟨k - 1, by omega⟩
    have hia : i < kids.length := by omega
    simp only [sapwoodref04_Bytes.l1]
    rw [if_pos (by omega), if_pos (by omega), if_pos (by omega), rd65 hia]
    rw [getElem_pos_map' hia] at ho hl ⊢
    simp only [kidsOk, Bool.and_eq_true] at ho
    rw [List.flatMap_cons, List.length_append] at hl
    have ho1 : keyOk kids[i].f0 = true := ho.1.1.1
    have hv := numOk_num (m := kids[i].f1) ho.1.2
    have hk1 := keyOk_len ho1
    have t1 := textL_length kids[i].f0
    have hx0 : x.length ≤ 252 := by omega
    have fin := ih k (x ++ kidL (cw kids[i])) _ (i + 1) (by omega) (by omega) (by omega) ho.2 (by rw [List.all_append, hx, kidL_all]; rfl) (by rw [List.length_append]; omega)
    rw [List.append_assoc] at fin
    rw [List.flatMap_cons]
    have hcell := kidL_cw kids[i]
    rw [nx_nat i (by omega), text_f _ (by omega) k (by omega), Option.bind_some, if_pos (by rw [str_size, str_size]; omega), num2_f _ hv.1 (by omega) k (by omega), ← str_append, Option.bind_some,
      if_pos (by rw [str_size, str_size, List.length_append, num16_length]; omega), ← str_append]
    have e : x ++ textL kids[i].f0 ++ num16 kids[i].f1 = x ++ kidL (cw kids[i]) := by rw [hcell]; simp
    rw [e]
    exact fin
theorem refBytes_f (kind : Int) (cells : List S64) (kids : List S65) (piece : ByteArray) (next : Int) (k : Nat) (hk : 5000 < k) (h : rightB kind (cells.map cv) (kids.map cw) piece next = true) :
    sapwoodref04_Bytes.f k kind cells kids piece next = some (strOfNums (encL kind (cells.map cv) (kids.map cw) piece next)) := by
  have hlen := body_len h
  have hall := bodyL_all kind (cells.map cv) (kids.map cw) piece next
  unfold encL
  unfold rightB at h
  unfold bodyL at hlen hall ⊢
  unfold sapwoodref04_Bytes.f
  rw [List.length_map, List.length_map] at h
  rw [List.length_map, List.length_map] at hlen hall ⊢
  by_cases h1 : kind = 1
  · rw [if_pos h1] at h hlen hall ⊢
    simp only [Bool.and_eq_true, decide_eq_true_eq] at h
    have := refEnc_cells cells kind kids piece next h.1.2 cells.length k ([kind % 256] ++ [(cells.length : Int) % 256]) e0 0 (by omega) (by omega) (by omega) h.2
      (by rw [List.all_append, List.all_cons, List.all_cons, byte_all, byte_all]; rfl) (by simp only [List.length_append, List.length_cons, List.length_nil, List.drop_zero] at hlen ⊢; omega)
    rw [List.drop_zero] at this
    rw [num1_f kind (by omega) (by omega) k (by omega), Option.bind_some, if_pos h1, num1_f _ (by omega) (by omega) k (by omega), Option.bind_some, if_pos (by rw [str_size, str_size]; show 1 + 1 ≤ 9223372036854775807; omega), ← str_append]
    exact this
  · rw [if_neg h1] at h hlen hall ⊢
    by_cases h2 : kind = 2
    · rw [if_pos h2] at h hlen hall ⊢
      simp only [Bool.and_eq_true, decide_eq_true_eq] at h
      have := refEnc_kids cells kind kids piece next h.1.2.2 kids.length k ([kind % 256] ++ [(kids.length : Int) % 256]) e0 0 (by omega) (by omega) (by omega) h.2
        (by rw [List.all_append, List.all_cons, List.all_cons, byte_all, byte_all]; rfl) (by simp only [List.length_append, List.length_cons, List.length_nil, List.drop_zero] at hlen ⊢; omega)
      rw [List.drop_zero] at this
      rw [num1_f kind (by omega) (by omega) k (by omega), Option.bind_some, if_neg h1, if_pos h2, num1_f _ (by omega) (by omega) k (by omega), Option.bind_some, if_pos (by rw [str_size, str_size]; show 1 + 1 ≤ 9223372036854775807; omega), ← str_append]
      exact this
    · rw [if_neg h2] at h hlen hall ⊢
      by_cases h3 : kind = 3
      · rw [if_pos h3] at h hlen hall ⊢
        simp only [Bool.and_eq_true, Bool.or_eq_true, decide_eq_true_eq] at h
        have htl := textL_length piece
        have hn : 0 ≤ next ∧ next ≤ 511 := by
          rcases h.2 with h | h
          · omega
          · exact numOk_num h
        rw [num1_f kind (by omega) (by omega) k (by omega), Option.bind_some, if_neg h1, if_neg h2, if_pos h3, text_f piece (by omega) k (by omega), Option.bind_some, if_pos (by rw [str_size, str_size, htl]; simp; omega),
          num2_f next hn.1 (by omega) k (by omega), Option.bind_some, ← str_append, if_pos (by rw [str_size, str_size, List.length_append, htl, num16_length]; simp; omega), ← str_append]
        have he : [kind % 256] ++ textL piece ++ num16 next = kind % 256 :: (textL piece ++ num16 next) := by simp
        rw [he]
        exact pad_j k _ hlen (by omega) hall
      · rw [if_neg h3] at h
        cases h
end Go.Proofs.Ytgbcfkcnoncgdaa.Pure
namespace Go.Proofs.Ytgbcfkcnoncgdaa.Pure
open Go.Proofs.Ytgbcfkcnoncgdaa.Hand
open Go.RowKit Go.Proofs.Ytgbcfkcnoncgdaa.Sp Go.Proofs.YtgbcfkcnoncgdaaW.PrintWords Go.Proofs.YtgbcfkcnoncgdaaW.PrintLast
theorem refOpen_f (s : ByteArray) (hs : s.size ≤ 10000000) (k : Nat) (hk : 10 * s.size < k) :
    sapwoodref02_Open.f k s = some (if opened (bytesOf s) = true then (strOfNums ((bytesOf s).take (s.size - 4)), true) else (⟨#[]⟩, false)) := by
  have hlen := bytesOf_length s
  unfold sapwoodref02_Open.f
  by_cases h4 : (s.size : Int) < 4
  · rw [if_pos h4, if_neg (by simp [opened]; omega)]
  · have hn : ((s.size : Int) - 4).toNat = s.size - 4 := by omega
    rw [if_neg h4, wrap_in (by omega) (by omega), if_pos (by omega), if_pos (by omega), hn]
    have hx : (s.extract 0 (s.size - 4)).size = s.size - 4 := by rw [ByteArray.size_extract]; omega
    rw [refSeal_f _ (by omega) k (by omega), bytesOf_extract s _]
    simp only [Option.bind_some]
    have hx2 : s.extract 0 (s.size - 4) = strOfNums ((bytesOf s).take (s.size - 4)) := by
      rw [← bytesOf_extract s _, str_bytes]
    have hiff : ((strOfNums (sealL ((bytesOf s).take (s.size - 4)))).toList = s.toList) ↔ opened (bytesOf s) = true := by
      rw [toList_inj]
      unfold opened
      rw [hlen, decide_eq_true_iff]
      constructor
      · intro h
        refine ⟨by omega, ?_⟩
        have h' := congrArg bytesOf h
        rw [bytes_str (sealL_bytes (all_take (bytesOf_all s) _))] at h'
        exact h'
      · intro h
        rw [h.2, str_bytes]
    by_cases ho : opened (bytesOf s) = true
    · rw [if_pos (hiff.2 ho), if_pos ho, hx2]
    · rw [if_neg (fun h => ho (hiff.1 h)), if_neg ho]
end Go.Proofs.Ytgbcfkcnoncgdaa.Pure
namespace Go.Proofs.Ytgbcfkcnoncgdaa.Hand
open Go.RowKit Go.Proofs.Ytgbcfkcnoncgdaa.Sp Go.Proofs.YtgbcfkcnoncgdaaW.PrintWords Go.Proofs.YtgbcfkcnoncgdaaW.PrintLast Go.Proofs.YtgbcfkcnoncgdaaW.PrintMore
set_option linter.unusedVariables false
set_option linter.unusedSimpArgs false
theorem info_page_R : (Try.prog.info? 35).map (·.size) = some 5 := by kernel_rfl
def s64 (c : CellP) : S64 := ⟨c.1, c.2.1, c.2.2.1, c.2.2.2⟩
def s65 (c : KidP) : S65 := ⟨c.1, c.2⟩
theorem cv_s64 (xs : List CellP) : (xs.map s64).map Pure.cv = xs.map s57 := by rw [List.map_map]; rfl
theorem cw_s65 (xs : List KidP) : (xs.map s65).map Pure.cw = xs.map s61 := by rw [List.map_map]; rfl
theorem info_cell4 : (Try.prog.info? 64).map (fun i => (i.zero, i.size, i.bytes)) = some (some (.agg cell0), 4, 48) := by kernel_rfl
theorem info_kid4 : (Try.prog.info? 65).map (fun i => (i.zero, i.size, i.bytes)) = some (some (.agg #[.string ⟨#[]⟩, .int .i64 0]), 2, 24) := by kernel_rfl
theorem app_cells_R {W : World} {base g0 : Nat} {v : Value} {xs : List CellP} {c : CellP} (HO : W.ownsRow base 64 4 v xs.length (flatC xs)) (hblk : W.heap[g0]? = some (.cells (cellV c) 64 (0, 0))) (hbase : base ≤ W.heap.size) (hl : xs.length ≤ 1000) :
    ∃ v1 w1, (Builtin.append_ #[32, 32] 32 #[v, .slice (some ⟨g0, 0, none⟩) 1 1]).run Try.prog W = .ok v1 w1 ∧ w1.ownsRow base 64 4 v1 (xs.length + 1) (flatC (xs ++ [c])) ∧ W.grownBy w1 v.ownBlock ∧ (v1.ownBlock = v.ownBlock ∨ v1.ownBlock = some W.heap.size) := by
  obtain ⟨i, hi, hzz⟩ := Option.map_eq_some_iff.1 info_cell4
  simp only [Prod.mk.injEq] at hzz
  obtain ⟨hz0, hz1, hz2⟩ := hzz
  obtain ⟨v1, w1, hr, h2, h3, _, h5⟩ := run_append_own_at (P := Try.prog) W base 32 32 64 i (.agg cell0) 4 48 Try.underlying32 hi hz0 hz1 hz2 rfl (by omega) v xs.length (flatC xs) HO ⟨g0, 0, none⟩ 1 1 (cellV c).toList rfl (fun j u hu => by rw [add_plain, blk_cell hblk]; simpa using hu)
    (by intro u hu; simp only [cellV, List.mem_cons, List.not_mem_nil, or_false] at hu; rcases hu with rfl | rfl | rfl | rfl <;> rfl) (by simp only [maxLen]; omega) (by omega) hbase
  exact ⟨v1, w1, hr, by rw [flatC_snoc]; exact h2, h3, h5⟩
theorem app_kids_R {W : World} {base g0 : Nat} {v : Value} {xs : List KidP} {c : KidP} (HO : W.ownsRow base 65 2 v xs.length (flatK xs)) (hblk : W.heap[g0]? = some (.cells #[.string c.1, .int .i64 c.2] 65 (0, 0))) (hbase : base ≤ W.heap.size) (hl : xs.length ≤ 1000) :
    ∃ v1 w1, (Builtin.append_ #[33, 33] 33 #[v, .slice (some ⟨g0, 0, none⟩) 1 1]).run Try.prog W = .ok v1 w1 ∧ w1.ownsRow base 65 2 v1 (xs.length + 1) (flatK (xs ++ [c])) ∧ W.grownBy w1 v.ownBlock ∧ (v1.ownBlock = v.ownBlock ∨ v1.ownBlock = some W.heap.size) := by
  obtain ⟨i, hi, hzz⟩ := Option.map_eq_some_iff.1 info_kid4
  simp only [Prod.mk.injEq] at hzz
  obtain ⟨hz0, hz1, hz2⟩ := hzz
  obtain ⟨v1, w1, hr, h2, h3, _, h5⟩ := run_append_own_at (P := Try.prog) W base 33 33 65 i (.agg #[.string ⟨#[]⟩, .int .i64 0]) 2 24 Try.underlying33 hi hz0 hz1 hz2 rfl (by omega) v xs.length (flatK xs) HO ⟨g0, 0, none⟩ 1 1 [.string c.1, .int .i64 c.2] rfl (fun j u hu => by rw [add_plain, blk_cell hblk]; simpa using hu)
    (by intro u hu; simp only [List.mem_cons, List.not_mem_nil, or_false] at hu; rcases hu with rfl | rfl <;> rfl) (by simp only [maxLen]; omega) (by omega) hbase
  exact ⟨v1, w1, hr, by rw [flatK_snoc]; exact h2, h3, h5⟩
theorem cells_R2 {W : World} {base b2 : Nat} {v : Value} {xs : List CellP} (HO : W.ownsRow base 64 4 v xs.length (flatC xs)) (hb : b2 ≤ base) : Kd.R k64 64 W b2 (fun _ => True) v (xs.map s64) := by
  refine ⟨fun _ _ => trivial, flatC xs, by rw [List.length_map]; exact own_weaken HO hb, by rw [List.length_map]; exact HO.1, fun j p hp => ?_⟩
  rw [List.getElem?_map] at hp
  obtain ⟨c, hc, rfl⟩ := Option.map_eq_some_iff.1 hp
  have := flatC_cut xs j c hc
  show k64.M W b2 _ (s64 c) (((flatC xs).drop (j * 4)).take 4)
  rw [this]
  exact k64_mkM W b2 _ (s64 c)
theorem kids_R2 {W : World} {base b2 : Nat} {v : Value} {xs : List KidP} (HO : W.ownsRow base 65 2 v xs.length (flatK xs)) (hb : b2 ≤ base) : Kd.R k65 65 W b2 (fun _ => True) v (xs.map s65) := by
  refine ⟨fun _ _ => trivial, flatK xs, by rw [List.length_map]; exact own_weaken HO hb, by rw [List.length_map]; exact HO.1, fun j p hp => ?_⟩
  rw [List.getElem?_map] at hp
  obtain ⟨c, hc, rfl⟩ := Option.map_eq_some_iff.1 hp
  have := flatK_cut xs j c hc
  show k65.M W b2 _ (s65 c) (((flatK xs).drop (j * 2)).take 2)
  rw [this]
  exact k65_mkM W b2 _ (s65 c)
structure RInv (w wr : World) (g q : Nat) (B : ByteArray) (s : RS) (k : Int) (v1 v2 : Value) (t : ByteArray) (n : Int) (xs : List CellP) (ys : List KidP) : Prop where
  below : Below w.heap.size w wr
  res : wr.heap[w.heap.size]? = some (.cells (pageV 0 nilV nilV ⟨#[]⟩ 0) 35 (0, 0))
  rd : Rf wr g B s
  lo : w.heap.size < g
  gq : g < q
  blk : wr.heap[q]? = some (.cells (pageV k v1 v2 t n) 35 (0, 0))
  o1 : wr.ownsRow (q + 1) 64 4 v1 xs.length (flatC xs)
  o2 : wr.ownsRow (q + 1) 65 2 v2 ys.length (flatK ys)
section
variable {w wr w' : World} {g q : Nat} {B : ByteArray} {s s' : RS} {k : Int} {v1 v2 : Value} {t : ByteArray} {n : Int} {xs : List CellP} {ys : List KidP}
theorem Rf.far {a : World} {z : Nat} (h : Rf a g B s) (hz : g ≠ z) (j : Nat) (u : Value) : Rf (a.setCell ⟨z, j, none⟩ u) g B s := h.other ((Only.refl a z).set j u) hz
theorem RInv.qlt (h : RInv w wr g q B s k v1 v2 t n xs ys) : q < wr.heap.size := blk_lt h.blk
theorem RInv.only (h : RInv w wr g q B s k v1 v2 t n xs ys) (ho : Only wr w' g) (hr : Rf w' g B s') : RInv w w' g q B s' k v1 v2 t n xs ys := by
  have h2 := h.lo
  have h3 := h.gq
  exact ⟨ho.below h.below (by omega) h.below.size, blk_only h.res ho (by omega), hr, h.lo, h.gq, blk_only h.blk ho (by omega), own_only h.o1 ho h.gq, own_only h.o2 ho h.gq⟩
theorem RInv.mem (h : RInv w wr g q B s k v1 v2 t n xs ys) (hb : Below wr.heap.size wr w') : RInv w w' g q B s k v1 v2 t n xs ys :=
  ⟨below_step h.below hb, blk_below h.res hb, h.rd.below hb, h.lo, h.gq, blk_below h.blk hb, pw_own_below h.o1 hb, pw_own_below h.o2 hb⟩
theorem RInv.put (h : RInv w wr g q B s k v1 v2 t n xs ys) (j : Nat) (u : Value) {k' : Int} {t' : ByteArray} {n' : Int} (hC : (pageV k v1 v2 t n).setIfInBounds j u = pageV k' v1 v2 t' n') : RInv w (wr.setCell ⟨q, j, none⟩ u) g q B s k' v1 v2 t' n' xs ys := by
  have h2 := h.lo
  have h3 := h.gq
  refine ⟨Below.far h.below (by omega) j u, blk_far h.res (by omega) j u, h.rd.far (by omega) j u, h.lo, h.gq, blk_put h.blk j u hC, ?_, ?_⟩
  · exact own_setCell h.o1 (p := ⟨q, j, none⟩) (own_ne h.o1 h.blk (by decide)) u
  · exact own_setCell h.o2 (p := ⟨q, j, none⟩) (own_ne h.o2 h.blk (by decide)) u
theorem RInv.appC {w1 : World} {c : CellP} {v : Value} (h : RInv w wr g q B s k v1 v2 t n xs ys) (hO : w1.ownsRow (q + 1) 64 4 v (xs.length + 1) (flatC (xs ++ [c]))) (hg : wr.grownBy w1 v1.ownBlock) : RInv w (w1.setCell ⟨q, 1, none⟩ v) g q B s k v v2 t n (xs ++ [c]) ys := by
  have h2 := h.lo
  have h3 := h.gq
  have hr : ∀ j, v1.ownBlock = some j → q + 1 ≤ j := fun j hj => own_base h.o1 j hj
  have hblk := grown_only hg hr h.blk (Nat.le_refl _)
  refine ⟨Below.far ?_ (by omega) 1 v, blk_far (grown_only hg hr h.res (by omega)) (by omega) 1 v, Rf.far ⟨grown_only hg hr h.rd.blk (by omega), h.rd.at_, h.rd.small⟩ (by omega) 1 v, h.lo, h.gq, blk_put hblk 1 v rfl, ?_, ?_⟩
  · exact ⟨hg.os.trans h.below.os, hg.tape.trans h.below.tape, hg.output.trans h.below.output, Nat.le_trans h.below.size hg.size, fun i hi => (hg.block i (Nat.lt_of_lt_of_le hi h.below.size) (by intro he; have := hr i he.symm; omega)).trans (h.below.block i hi)⟩
  · rw [List.length_append, List.length_singleton]
    exact own_setCell hO (p := ⟨q, 1, none⟩) (own_ne hO hblk (by decide)) v
  · have h5 := own_other h.o2 hg (own_type_ne h.o2 h.o1 (by decide))
    exact own_setCell h5 (p := ⟨q, 1, none⟩) (own_ne h5 hblk (by decide)) v
theorem RInv.appK {w1 : World} {c : KidP} {v : Value} (h : RInv w wr g q B s k v1 v2 t n xs ys) (hO : w1.ownsRow (q + 1) 65 2 v (ys.length + 1) (flatK (ys ++ [c]))) (hg : wr.grownBy w1 v2.ownBlock) : RInv w (w1.setCell ⟨q, 2, none⟩ v) g q B s k v1 v t n xs (ys ++ [c]) := by
  have h2 := h.lo
  have h3 := h.gq
  have hr : ∀ j, v2.ownBlock = some j → q + 1 ≤ j := fun j hj => own_base h.o2 j hj
  have hblk := grown_only hg hr h.blk (Nat.le_refl _)
  refine ⟨Below.far ?_ (by omega) 2 v, blk_far (grown_only hg hr h.res (by omega)) (by omega) 2 v, Rf.far ⟨grown_only hg hr h.rd.blk (by omega), h.rd.at_, h.rd.small⟩ (by omega) 2 v, h.lo, h.gq, blk_put hblk 2 v rfl, ?_, ?_⟩
  · exact ⟨hg.os.trans h.below.os, hg.tape.trans h.below.tape, hg.output.trans h.below.output, Nat.le_trans h.below.size hg.size, fun i hi => (hg.block i (Nat.lt_of_lt_of_le hi h.below.size) (by intro he; have := hr i he.symm; omega)).trans (h.below.block i hi)⟩
  · have h5 := own_other h.o1 hg (own_type_ne h.o1 h.o2 (by decide))
    exact own_setCell h5 (p := ⟨q, 2, none⟩) (own_ne h5 hblk (by decide)) v
  · rw [List.length_append, List.length_singleton]
    exact own_setCell hO (p := ⟨q, 2, none⟩) (own_ne hO hblk (by decide)) v
theorem RInv.grownblk {w1 : World} (h : RInv w wr g q B s k v1 v2 t n xs ys) (hg : wr.grownBy w1 v1.ownBlock) : w1.heap[q]? = some (.cells (pageV k v1 v2 t n) 35 (0, 0)) :=
  grown_only hg (fun j hj => own_base h.o1 j hj) h.blk (Nat.le_refl _)
theorem RInv.grownblk2 {w1 : World} (h : RInv w wr g q B s k v1 v2 t n xs ys) (hg : wr.grownBy w1 v2.ownBlock) : w1.heap[q]? = some (.cells (pageV k v1 v2 t n) 35 (0, 0)) :=
  grown_only hg (fun j hj => own_base h.o2 j hj) h.blk (Nat.le_refl _)
theorem RInv.rows (h : RInv w wr g q B s k v1 v2 t n xs ys) : (∀ j, v1.ownBlock = some j → j < wr.heap.size) ∧ ∀ j, v2.ownBlock = some j → j < wr.heap.size := ⟨fun j hj => own_lt h.o1 j hj, fun j hj => own_lt h.o2 j hj⟩
theorem RInv.setFar {z : Nat} (h : RInv w wr g q B s k v1 v2 t n xs ys) (hz : q < z) (hv : (∀ j, v1.ownBlock = some j → j < z) ∧ ∀ j, v2.ownBlock = some j → j < z) (j : Nat) (u : Value) : RInv w (wr.setCell ⟨z, j, none⟩ u) g q B s k v1 v2 t n xs ys := by
  have h2 := h.lo
  have h3 := h.gq
  refine ⟨Below.far h.below (by omega) j u, blk_far h.res (by omega) j u, h.rd.far (by omega) j u, h.lo, h.gq, blk_far h.blk (by omega) j u, own_setCell h.o1 (p := ⟨z, j, none⟩) ?_ u, own_setCell h.o2 (p := ⟨z, j, none⟩) ?_ u⟩
  · intro he
    exact absurd (hv.1 z he.symm) (by omega)
  · intro he
    exact absurd (hv.2 z he.symm) (by omega)
end
theorem five_cells_R {W : World} {q : Nat} {k n : Int} {v1 v2 : Value} {t : ByteArray} (h : W.heap[q]? = some (.cells (pageV k v1 v2 t n) 35 (0, 0))) : W.cell? ⟨q, 0, none⟩ = some (.int .i64 k) ∧ W.cell? ⟨q, 1, none⟩ = some v1 ∧ W.cell? ⟨q, 2, none⟩ = some v2 ∧ W.cell? ⟨q, 3, none⟩ = some (.string t) ∧ W.cell? ⟨q, 4, none⟩ = some (.int .i64 n) ∧ ∀ j, W.frozen? ⟨q, j, none⟩ = false :=
  ⟨blk_cell h 0, blk_cell h 1, blk_cell h 2, blk_cell h 3, blk_cell h 4, blk_frozen h⟩
theorem laid_five_R {W : World} {q : Nat} {k n : Int} {v1 v2 : Value} {t : ByteArray} {k' n' : Int} {v1' v2' : Value} {t' : ByteArray} (h : W.heap[q]? = some (.cells (pageV k' v1' v2' t' n') 35 (0, 0))) : (((((W.setCell ⟨q, 0, none⟩ (.int .i64 k)).setCell ⟨q, 1, none⟩ v1).setCell ⟨q, 2, none⟩ v2).setCell ⟨q, 3, none⟩ (.string t)).setCell ⟨q, 4, none⟩ (.int .i64 n)).heap[q]? = some (.cells (pageV k v1 v2 t n) 35 (0, 0)) :=
  blk_set (blk_set (blk_set (blk_set (blk_set h 0 (.int .i64 k)) 1 v1) 2 v2) 3 (.string t)) 4 (.int .i64 n)
def RDecOut (w : World) (r : PageP × Int) (x : Ending) (w' : World) : Prop := ∃ v1 v2, x = .returned (.tuple #[.agg (pageV r.1.1 v1 v2 r.1.2.2.2.1 r.1.2.2.2.2), .int .i64 r.2]) ∧
  Kd.R k64 64 w' w.heap.size (fun _ => True) v1 (r.1.2.1.map s64) ∧ Kd.R k65 65 w' w.heap.size (fun _ => True) v2 (r.1.2.2.1.map s65) ∧ Below w.heap.size w w'
theorem rdec_laid {w wz : World} {a : Act} {C : Array Value} {e : Int} {Q : Ending → World → Prop} (h1 : wz.heap[w.heap.size]? = some (.cells C 35 (0, 0))) (hC : C.size = 5) (ha : a.tmps.getD 2 undef = .pointer (some ⟨w.heap.size, 0, none⟩)) (he : a.tmps.getD 3 undef = .int .i64 e) (hd : a.defers = [])
    (hQ : Q (.returned (.tuple #[.agg C, .int .i64 e])) wz) : bodyPost Try.prog Try.f19 Q .ret a wz := by
  refine bodyPost_ret (v := .tuple #[.agg C, .int .i64 e]) ?_ hd hQ
  rw [results_cell_tmp Try.results19, ha, he]
  simp only [asAddr, Sem.run_pure, Result.andThen_ok, run_loadVar_row wz w.heap.size 35 35 C (0, 0) _ h1 Try.underlying35 rfl (by rw [hC]; exact info_page_R)]
theorem rdec_empty {w w' : World} (e : Int) (hb : Below w.heap.size w w') : RDecOut w (page0, e) (.returned (.tuple #[.agg (pageV 0 nilV nilV ⟨#[]⟩ 0), .int .i64 e])) w' := ⟨nilV, nilV, rfl, Kd.R_nil _ _ _ _ _, Kd.R_nil _ _ _ _ _, hb⟩
theorem rdec_bad {w wz : World} {k' n' : Int} {v1' v2' : Value} {t' : ByteArray} {a : Act} (e : Int) (hb : Below w.heap.size w wz) (h : wz.heap[w.heap.size]? = some (.cells (pageV k' v1' v2' t' n') 35 (0, 0))) (ha : a.tmps.getD 2 undef = .pointer (some ⟨w.heap.size, 0, none⟩)) (he : a.tmps.getD 3 undef = .int .i64 e) (hd : a.defers = []) :
    bodyPost Try.prog Try.f19 (RDecOut w (page0, e)) .ret a (((((wz.setCell ⟨w.heap.size, 0, none⟩ (.int .i64 0)).setCell ⟨w.heap.size, 1, none⟩ nilV).setCell ⟨w.heap.size, 2, none⟩ nilV).setCell ⟨w.heap.size, 3, none⟩ (.string ⟨#[]⟩)).setCell ⟨w.heap.size, 4, none⟩ (.int .i64 0)) :=
  rdec_laid (C := pageV 0 nilV nilV ⟨#[]⟩ 0) (e := e) (laid_five_R h) rfl ha he hd (rdec_empty e (below_five hb (Nat.le_refl _) _ _ _ _ _))
theorem rdec_good {w wz : World} {g q : Nat} {B : ByteArray} {s : RS} {k : Int} {v1 v2 : Value} {t : ByteArray} {n : Int} {xs : List CellP} {ys : List KidP} {a : Act} (h : RInv w wz g q B s k v1 v2 t n xs ys) (ha : a.tmps.getD 2 undef = .pointer (some ⟨w.heap.size, 0, none⟩)) (he : a.tmps.getD 3 undef = .int .i64 0) (hd : a.defers = []) :
    bodyPost Try.prog Try.f19 (RDecOut w ((k, xs, ys, t, n), 0)) .ret a (((((wz.setCell ⟨w.heap.size, 0, none⟩ (.int .i64 k)).setCell ⟨w.heap.size, 1, none⟩ v1).setCell ⟨w.heap.size, 2, none⟩ v2).setCell ⟨w.heap.size, 3, none⟩ (.string t)).setCell ⟨w.heap.size, 4, none⟩ (.int .i64 n)) := by
  have hlo : w.heap.size ≤ q + 1 := by have := h.lo; have := h.gq; omega
  refine rdec_laid (C := pageV k v1 v2 t n) (e := 0) (laid_five_R h.res) rfl ha he hd ⟨v1, v2, rfl, cells_R2 (own_move h.o1 fun j hj => five_far ?_ _ _ _ _ _) hlo, kids_R2 (own_move h.o2 fun j hj => five_far ?_ _ _ _ _ _) hlo, below_five h.below (Nat.le_refl _) _ _ _ _ _⟩
  · have := own_base h.o1 j hj; have := h.lo; have := h.gq; omega
  · have := own_base h.o2 j hj; have := h.lo; have := h.gq; omega
theorem RInv.start {w W : World} {g : Nat} {B : ByteArray} {s : RS} (k : Int) (hB : Below w.heap.size w W) (hD : W.heap[w.heap.size]? = some (.cells (pageV 0 nilV nilV ⟨#[]⟩ 0) 35 (0, 0))) (hR : Rf W g B s) (hlo : w.heap.size < g) :
    RInv w (W.alloc (.cells #[.int .i64 k, .slice none 0 0, .slice none 0 0, .string ⟨#[]⟩, .int .i64 0] 35)) g W.heap.size B s k nilV nilV ⟨#[]⟩ 0 [] [] :=
  ⟨below_alloc hB _, blk_below hD (below_alloc (Below.refl _ _) _), hR.below (below_alloc (Below.refl _ _) _), hlo, blk_lt hR.blk, blk_new _ _, own_nil _ _ _ _, own_nil _ _ _ _⟩
theorem ropen_any {w : World} (B : ByteArray) (hB : B.size = 256) : Calls Try.prog 39 #[.string B] w fun e w' => (Pure.opened (bytesOf B) = false → e = .returned (.tuple #[.string ⟨#[]⟩, .bool false])) ∧ (Pure.opened (bytesOf B) = true → e = .returned (.tuple #[.string (strOfNums ((bytesOf B).take 252)), .bool true])) ∧ Below w.heap.size w w' := by
  have hf := Pure.refOpen_f B (by omega) 10000 (by omega)
  rw [hB] at hf
  cases ho : Pure.opened (bytesOf B)
  · rw [if_neg (by rw [ho]; decide)] at hf
    exact (sapwoodref02_Open.calls 10000 B _ _ w hf).mono fun e w' ⟨h1, h2⟩ => ⟨fun _ => h1, (fun h => by cases h), h2⟩
  · rw [if_pos ho] at hf
    exact (sapwoodref02_Open.calls 10000 B _ _ w hf).mono fun e w' ⟨h1, h2⟩ => ⟨(fun h => by cases h), fun _ => h1, h2⟩
theorem rright_any {w : World} {A1 A2 : Option Addr} {c1 c2 : Nat} (k : Int) (xs : List S64) (ys : List S65) (t : ByteArray) (n : Int) (hC1 : Kd.C k64 w A1 xs.length xs) (hc1 : xs.length ≤ c1) (hC2 : Kd.C k65 w A2 ys.length ys) (hc2 : ys.length ≤ c2) (hx : xs.length ≤ 1000) (hy : ys.length ≤ 1000) :
    Calls Try.prog 18 #[.agg #[.int .i64 k, .slice A1 xs.length c1, .slice A2 ys.length c2, .string t, .int .i64 n]] w fun e w' => e = .returned (.bool (Pure.rightB k (xs.map Pure.cv) (ys.map Pure.cw) t n)) ∧ Below w.heap.size w w' :=
  sapwoodref04_Right.calls 10000 k A1 c1 xs A2 c2 ys t n _ w hC1 hc1 hC2 hc2 (Pure.refRight_f k xs ys t n (by omega) (by omega) 10000 (by omega))
theorem rbytes_any {w : World} {A1 A2 : Option Addr} {c1 c2 : Nat} (k : Int) (xs : List S64) (ys : List S65) (t : ByteArray) (n : Int) (hC1 : Kd.C k64 w A1 xs.length xs) (hc1 : xs.length ≤ c1) (hC2 : Kd.C k65 w A2 ys.length ys) (hc2 : ys.length ≤ c2) (hr : Pure.rightB k (xs.map Pure.cv) (ys.map Pure.cw) t n = true) :
    Calls Try.prog 35 #[.agg #[.int .i64 k, .slice A1 xs.length c1, .slice A2 ys.length c2, .string t, .int .i64 n]] w fun e w' => e = .returned (.string (strOfNums (Pure.encL k (xs.map Pure.cv) (ys.map Pure.cw) t n))) ∧ Below w.heap.size w w' :=
  sapwoodref04_Bytes.calls 10000 k A1 c1 xs A2 c2 ys t n _ w hC1 hc1 hC2 hc2 (Pure.refBytes_f k xs ys t n 10000 (by omega) hr)
end Go.Proofs.Ytgbcfkcnoncgdaa.Hand
namespace Go.Proofs.Ytgbcfkcnoncgdaa.Hand
open Go.RowKit Go.Proofs.Ytgbcfkcnoncgdaa.Sp Go.Proofs.YtgbcfkcnoncgdaaW.PrintWords Go.Proofs.YtgbcfkcnoncgdaaW.PrintLast Go.Proofs.YtgbcfkcnoncgdaaW.PrintMore
set_option linter.unusedVariables false
set_option linter.unusedSimpArgs false
theorem rdec_long {w : World} {B : ByteArray} (hl : B.size ≠ 256) : Calls Try.prog 19 #[.string B] w (RDecOut w (page0, 4)) := by
  have z1 : ((B.size : Int) != 256) = true := by simp; omega
  go_enter Try.func19, Try.ntmps19
  go_wp2
  exact rdec_laid (C := pageV 0 nilV nilV ⟨#[]⟩ 0) (e := 4) (blk_new _ _) rfl rfl rfl rfl (rdec_empty 4 (below_alloc (Below.refl _ _) _))
set_option maxHeartbeats 2000000 in
theorem rdec_sum {w : World} {B : ByteArray} (hl : B.size = 256) (ho : Pure.opened (bytesOf B) = false) : Calls Try.prog 19 #[.string B] w (RDecOut w (page0, 5)) := by
  have z1 : ((B.size : Int) != 256) = false := by simp; omega
  have hb1 : Below w.heap.size w (w.alloc (.cells (pageV 0 nilV nilV ⟨#[]⟩ 0) 35)) := below_alloc (Below.refl _ _) _
  have HO := Aside0.mk (ropen_any (w := w.alloc (.cells (pageV 0 nilV nilV ⟨#[]⟩ 0) 35)) B hl)
  rw [ho] at HO
  have HB1 := Aside0.mk hb1
  have HD1 : Aside0 ((w.alloc (.cells (pageV 0 nilV nilV ⟨#[]⟩ 0) 35)).heap[w.heap.size]? = some (.cells (pageV 0 nilV nilV ⟨#[]⟩ 0) 35 (0, 0))) := ⟨blk_new _ _⟩
  clear hb1 hl ho
  go_enter Try.func19, Try.ntmps19
  go_wp2_with (go_at_call 39; refine HO.out.mono ?_; rintro e w2 ⟨h1, _, hb⟩; obtain rfl := h1 rfl; have HB2 := Aside0.mk (below_step HB1.out hb); have HD2 := Aside0.mk (blk_below HD1.out hb); obtain ⟨d0, d1, d2, d3, d4, df⟩ := five_cells_R HD2.out; have hlt := blk_lt HD2.out; clear hb h1)
  exact rdec_laid (C := pageV 0 nilV nilV ⟨#[]⟩ 0) (e := 5) (laid_five_R HD2.out) rfl rfl rfl rfl (rdec_empty 5 (below_five HB2.out (Nat.le_refl _) _ _ _ _ _))
theorem four_cells_R {w : World} {q : Nat} {X Y Z V : Value} (h : w.heap[q]? = some (.cells #[X, Y, Z, V] 64 (0, 0))) : w.cell? ⟨q, 0, none⟩ = some X ∧ w.cell? ⟨q, 1, none⟩ = some Y ∧ w.cell? ⟨q, 2, none⟩ = some Z ∧ w.cell? ⟨q, 3, none⟩ = some V ∧ ∀ j, w.frozen? ⟨q, j, none⟩ = false := ⟨blk_cell h 0, blk_cell h 1, blk_cell h 2, blk_cell h 3, blk_frozen h⟩
def RCutRel (w : World) (g q : Nat) (B : ByteArray) (pr : PageP × RS) (wc : World) : Prop := ∃ v1 v2, pr.1.2.1.length ≤ 255 ∧ pr.1.2.2.1.length ≤ 255 ∧ RInv w wc g q B pr.2 pr.1.1 v1 v2 pr.1.2.2.2.1 pr.1.2.2.2.2 pr.1.2.1 pr.1.2.2.1
def RLeafRel (w : World) (g q : Nat) (B : ByteArray) (s2 : RS) (N : Nat) (i : Value) (wr : World) : Prop := ∃ (k : Nat) (v1 : Value), k ≤ N ∧ i = .int .i64 (k : Int) ∧ RInv w wr g q B (cellsK (bytesOf B) s2 k).2 1 v1 nilV ⟨#[]⟩ 0 (cellsK (bytesOf B) s2 k).1 []
def RBranchRel (w : World) (g q : Nat) (B : ByteArray) (s2 : RS) (N : Nat) (i : Value) (wr : World) : Prop := ∃ (k : Nat) (v2 : Value), k ≤ N ∧ i = .int .i64 (k : Int) ∧ RInv w wr g q B (kidsK (bytesOf B) s2 k).2 2 nilV v2 ⟨#[]⟩ 0 [] (kidsK (bytesOf B) s2 k).1
structure RStep (l : List Int) (s2 : RS) (k : Nat) (X : List CellP) (sk : RS) (S : ByteArray) (s3 : RS) (t : Int) (s4 : RS) : Prop where
  x : (cellsK l s2 k).1 = X
  s : (cellsK l s2 k).2 = sk
  ts : strOfNums (rText l sk 24).1 = S
  t3 : (rText l sk 24).2 = s3
  nt : (rNum l s3 1).1 = t
  n4 : (rNum l s3 1).2 = s4
theorem rStep (l : List Int) (s2 : RS) (k : Nat) : ∃ X sk S s3 t s4, RStep l s2 k X sk S s3 t s4 := ⟨_, _, _, _, _, _, rfl, rfl, rfl, rfl, rfl, rfl⟩
theorem RStep.zero {l : List Int} {s2 : RS} {k : Nat} {X : List CellP} {sk : RS} {S : ByteArray} {s3 s4 : RS} {t : Int} (h : RStep l s2 k X sk S s3 t s4) (ht : t = 0) {V : ByteArray} {s5 : RS} (hV : strOfNums (rText l s4 24).1 = V) (h5 : (rText l s4 24).2 = s5) : (cellsK l s2 (k + 1)).1 = X ++ [(S, V, 0, 0)] ∧ (cellsK l s2 (k + 1)).2 = s5 := by
  obtain ⟨rfl, rfl, rfl, rfl, rfl, rfl⟩ := h
  subst hV h5
  rw [cellsK]
  simp only
  unfold takeC
  rw [if_pos ht]
  exact ⟨rfl, rfl⟩
theorem RStep.one {l : List Int} {s2 : RS} {k : Nat} {X : List CellP} {sk : RS} {S : ByteArray} {s3 s4 : RS} {t : Int} (h : RStep l s2 k X sk S s3 t s4) (ht : t ≠ 0) {n m : Int} {s5 s6 : RS} (hn : (rNum l s4 2).1 = n) (h5 : (rNum l s4 2).2 = s5) (hm : (rNum l s5 2).1 = m) (h6 : (rNum l s5 2).2 = s6) : (cellsK l s2 (k + 1)).1 = X ++ [(S, ⟨#[]⟩, n, m)] ∧ (cellsK l s2 (k + 1)).2 = s6 := by
  obtain ⟨rfl, rfl, rfl, rfl, rfl, rfl⟩ := h
  subst hn h5 hm h6
  rw [cellsK]
  simp only
  unfold takeC
  rw [if_neg ht]
  exact ⟨rfl, rfl⟩
def RNumF (W : World) (g : Nat) (B : ByteArray) (n : Int) (s' : RS) (e : Ending) (w' : World) : Prop := e = .returned (.int .i64 n) ∧ Only W w' g ∧ Rf w' g B s'
def RTextF (W : World) (g : Nat) (B : ByteArray) (S : ByteArray) (s' : RS) (e : Ending) (w' : World) : Prop := e = .returned (.string S) ∧ Only W w' g ∧ Rf w' g B s'
theorem rtake1 {W : World} {g : Nat} {B : ByteArray} {s s' : RS} {n : Int} (h : Rf W g B s) (h1 : (rNum (bytesOf B) s 1).1 = n) (h2 : (rNum (bytesOf B) s 1).2 = s') : Calls Try.prog 40 #[.pointer (some ⟨g, 0, none⟩), .int .i64 1] W (RNumF W g B n s') := by
  have := RTake_any h 1 (by omega)
  unfold RNumOut at this
  rw [h1, h2] at this
  exact this
theorem rtake2 {W : World} {g : Nat} {B : ByteArray} {s s' : RS} {n : Int} (h : Rf W g B s) (h1 : (rNum (bytesOf B) s 2).1 = n) (h2 : (rNum (bytesOf B) s 2).2 = s') : Calls Try.prog 40 #[.pointer (some ⟨g, 0, none⟩), .int .i64 2] W (RNumF W g B n s') := by
  have := RTake_any h 2 (by omega)
  unfold RNumOut at this
  rw [h1, h2] at this
  exact this
theorem rtext {W : World} {g : Nat} {B : ByteArray} {s s' : RS} {S : ByteArray} (most : Int) (h : Rf W g B s) (h1 : strOfNums (rText (bytesOf B) s most).1 = S) (h2 : (rText (bytesOf B) s most).2 = s') : Calls Try.prog 41 #[.pointer (some ⟨g, 0, none⟩), .int .i64 most] W (RTextF W g B S s') := by
  have := RText_any h most
  unfold RTextOut at this
  rw [h1, h2] at this
  exact this
set_option maxRecDepth 100000 in
set_option maxHeartbeats 4000000 in
theorem rdec_page {w : World} {B : ByteArray} (hl : B.size = 256) (ho : Pure.opened (bytesOf B) = true) : Calls Try.prog 19 #[.string B] w (RDecOut w (decL (bytesOf B))) := by
  have z1 : ((B.size : Int) != 256) = false := by simp; omega
  have hb1 : Below w.heap.size w (w.alloc (.cells (pageV 0 nilV nilV ⟨#[]⟩ 0) 35)) := below_alloc (Below.refl _ _) _
  have HO := Aside0.mk (ropen_any (w := w.alloc (.cells (pageV 0 nilV nilV ⟨#[]⟩ 0) 35)) B hl)
  rw [ho] at HO
  have HE : Aside0 (decL (bytesOf B) = if (parseP ((bytesOf B).take 252)).2.e ≠ 0 then (page0, 3) else if okP (parseP ((bytesOf B).take 252)).1 (bytesOf B) = true then ((parseP ((bytesOf B).take 252)).1, 0) else (page0, 3)) := ⟨by unfold decL; rw [if_neg (by rw [bytesOf_length]; omega), if_neg (by rw [ho]; decide)]⟩
  have hT : bytesOf (strOfNums ((bytesOf B).take 252)) = (bytesOf B).take 252 := Pure.bytes_str (Pure.all_take (Pure.bytesOf_all B) 252)
  rw [← hT] at HE
  have hS : (strOfNums ((bytesOf B).take 252)).size ≤ 252 := by rw [Pure.str_size, List.length_take]; omega
  have HB1 := Aside0.mk hb1
  have HD1 : Aside0 ((w.alloc (.cells (pageV 0 nilV nilV ⟨#[]⟩ 0) 35)).heap[w.heap.size]? = some (.cells (pageV 0 nilV nilV ⟨#[]⟩ 0) 35 (0, 0))) := ⟨blk_new _ _⟩
  generalize strOfNums ((bytesOf B).take 252) = IN at HO HE hS
  have HSZ := Aside0.mk hS
  generalize hp : parseP (bytesOf IN) = pr at HE
  have HP := Aside0.mk hp
  generalize decL (bytesOf B) = D at HE ⊢
  have HI : Aside0 (isBy (bytesOf IN)) := ⟨bytesOf_isBy IN⟩
  clear hb1 hl ho hT hS hp
  go_enter Try.func19, Try.ntmps19
  go_upto_block 0 with (first | (go_at_call 39; refine HO.out.mono ?_; rintro e w2 ⟨hff, h1, hb⟩; obtain rfl := h1 rfl; have HB2 := Aside0.mk (below_step HB1.out hb); have HD2 := Aside0.mk (blk_below HD1.out hb); have HB3 := Aside0.mk (below_alloc HB2.out (.cells #[.string IN, .int .i64 0, .int .i64 0] 80)); have HD3 := Aside0.mk (blk_below HD2.out (below_alloc (Below.refl _ _) (.cells #[.string IN, .int .i64 0, .int .i64 0] 80))); have HLT := Aside0.mk (blk_lt HD2.out); have HR3 : Aside0 (Rf (w2.alloc (.cells #[.string IN, .int .i64 0, .int .i64 0] 80)) w2.heap.size IN ⟨0, 0⟩) := ⟨⟨blk_new _ _, Nat.zero_le _, (by have := HSZ.out; omega)⟩⟩; clear hb h1 hff) | (go_at_call 40; (with_reducible refine (rtake1 HR3.out rfl rfl).mono ?_); rintro e w4 ⟨rfl, ho, hr⟩; have HI4 := Aside0.mk (RInv.start (rNum (bytesOf IN) ⟨0, 0⟩ 1).1 (ho.below HB3.out (Nat.le_of_lt HLT.out) HB3.out.size) (blk_only HD3.out ho (Nat.ne_of_lt HLT.out)) hr HLT.out); clear ho hr))
  generalize w4.alloc (.cells #[.int .i64 (rNum (bytesOf IN) ⟨0, 0⟩ 1).1, .slice none 0 0, .slice none 0 0, .string ⟨#[]⟩, .int .i64 0] 35) = W5 at HI4 ⊢
  generalize w4.heap.size = q at HI4 ⊢
  generalize w2.heap.size = g at HI4 HR3 ⊢
  clear HR3 HB3 HD3 HB2 HD2 HLT HD1 HB1 HO
  have HK0 : Aside0 (rNum (bytesOf IN) ⟨0, 0⟩ 1 = ((rNum (bytesOf IN) ⟨0, 0⟩ 1).1, (rNum (bytesOf IN) ⟨0, 0⟩ 1).2)) := ⟨rfl⟩
  generalize (rNum (bytesOf IN) ⟨0, 0⟩ 1).1 = k1 at HI4 HK0 ⊢
  generalize (rNum (bytesOf IN) ⟨0, 0⟩ 1).2 = s1 at HI4 HK0
  have HK := HK0
  clear HK0
  go_cut [] (fun wc => RCutRel w g q IN pr wc)
  case first =>
    clear HE
    by_cases k_1 : k1 = 1
    · subst k_1
      have hb255 := (rNum1_range HI.out s1)
      obtain ⟨N, hN0⟩ : ∃ N : Nat, (rNum (bytesOf IN) s1 1).1 = (N : Int) := ⟨(rNum (bytesOf IN) s1 1).1.toNat, by omega⟩
      have hN : N ≤ 255 := by omega
      obtain ⟨s2, hs2⟩ : ∃ s2, (rNum (bytesOf IN) s1 1).2 = s2 := ⟨_, rfl⟩
      have HPR := Aside0.mk (HP.out.symm.trans (parse_leaf (s2 := s2) (N := N) HK.out (by rw [← hs2, ← hN0])))
      have HT8 := Aside0.mk (rtake1 HI4.out.rd hN0 hs2)
      clear hN0 hs2 hb255
      go_wp2_with (go_at_call 40; (with_reducible refine HT8.out.mono ?_); rintro e w6 ⟨rfl, ho, hr⟩; have HI6 := Aside0.mk (HI4.out.only ho hr); clear ho hr)
      go_loopw [9] (fun i wr => RLeafRel w g q IN s2 N i wr) (fun i _ => N - (intOf i).toNat)
      case atStart => exact ⟨0, _, Nat.zero_le _, rfl, HI6.out⟩
      case round =>
        obtain ⟨k, v1, hk, rfl, hP⟩ := hrel
        by_cases hlt : k < N
        · have HKL : Aside0 ((cellsK (bytesOf IN) s2 k).1.length ≤ 1000) := ⟨by rw [cellsK_len]; omega⟩
          obtain ⟨X, sk, S, s3, t, s4, hs⟩ := rStep (bytesOf IN) s2 k
          rw [hs.x, hs.s] at hP
          rw [hs.x] at HKL
          have HPd := Aside0.mk hP
          have HTX := Aside0.mk (rtext 24 hP.rd hs.ts hs.t3)
          have HT1 := Aside0.mk (fun (W : World) (h : Rf W g IN s3) => rtake1 h hs.nt hs.n4)
          by_cases ht : t = 0
          · obtain ⟨V, hV⟩ : ∃ V, strOfNums (rText (bytesOf IN) s4 24).1 = V := ⟨_, rfl⟩
            obtain ⟨s5, h5⟩ : ∃ s5, (rText (bytesOf IN) s4 24).2 = s5 := ⟨_, rfl⟩
            have HS := Aside0.mk (hs.zero ht hV h5)
            have HT2 := Aside0.mk (fun (W : World) (h : Rf W g IN s4) => rtext 24 h hV h5)
            have zt : (t == 0) = true := beq_iff_eq.2 ht
            clear hP hs hV h5 ht
            go_wp2_with (first | (go_at_call 41; have _q := HP7; (with_reducible refine (HT2.out _ HP7.out.rd).mono ?_); rintro e w8 ⟨rfl, ho, hr⟩; have HP8 := Aside0.mk (HP7.out.only ho hr); have HG8 := Aside0.mk (blk_only HG7.out ho HNE.out); have HP9 := Aside0.mk (HP8.out.setFar HQ6.out HV6.out 1 (.string V)); have HP10 := Aside0.mk (HP9.out.mem (below_alloc (Below.refl _ _) (.cells #[.string S, .string V, .int .i64 0, .int .i64 0] 64))); obtain ⟨v11, w11, hrun, hO, hgr, hown⟩ := app_cells_R (c := (S, V, 0, 0)) HP10.out.o1 (blk_new_set w8 ⟨w6.heap.size, 1, none⟩ (.string V) _) HP10.out.qlt HKL.out; obtain ⟨A9, c9, h9⟩ := own_slice hO; subst h9; have HPG := Aside0.mk (HP10.out.appC hO hgr); have HBG := five_cells_R (HP10.out.grownblk hgr); obtain ⟨x0, x1, x2, x3, x4, xf⟩ := HBG; obtain ⟨y0, y1, y2, y3, yf⟩ := four_cells_R HG8.out; obtain ⟨f0, f1, f2, f3, f4, ff⟩ := five_cells_R HP8.out.blk; have HRUN := Aside0.mk hrun; clear ho hr hO hgr hown hrun) | (go_at_call 40; (with_reducible refine (HT1.out _ HP6.out.rd).mono ?_); rintro e w7 ⟨rfl, ho, hr⟩; have HP7 := Aside0.mk (HP6.out.only ho hr); have HG7 := Aside0.mk (blk_only HG6.out ho HNE.out); clear ho hr) | (go_at_call 41; (with_reducible refine HTX.out.mono ?_); rintro e w6 ⟨rfl, ho, hr⟩; have HP5 := Aside0.mk (HPd.out.only ho hr); have HP6 := Aside0.mk (HP5.out.mem (below_alloc (Below.refl _ _) (.cells #[.string S, .string ⟨#[]⟩, .int .i64 0, .int .i64 0] 64))); have HG6 : Aside0 ((w6.alloc (.cells #[.string S, .string ⟨#[]⟩, .int .i64 0, .int .i64 0] 64)).heap[w6.heap.size]? = some (.cells #[.string S, .string ⟨#[]⟩, .int .i64 0, .int .i64 0] 64 (0, 0))) := ⟨blk_new _ _⟩; have HV6 := Aside0.mk (HP5.out.rows); have HQ6 := Aside0.mk HP5.out.qlt; have HNE : Aside0 (w6.heap.size ≠ g) := ⟨by have := HP5.out.gq; have := HP5.out.qlt; omega⟩; have hne : w6.heap.size ≠ q := (by have := HP5.out.qlt; omega); clear ho hr) | (at_builtin; refine wp_app rfl _ _ (.tmp 59) (.tmp 61) 32 rfl rfl rfl HRUN.out ?_))
            go_roundw
            case rel => exact ⟨k + 1, _, hlt, by go_num, by rw [HS.out.1, HS.out.2]; exact HPG.out⟩
            case measure => simp [intOf]; omega
          · obtain ⟨n, hn⟩ : ∃ n, (rNum (bytesOf IN) s4 2).1 = n := ⟨_, rfl⟩
            obtain ⟨s5, h5⟩ : ∃ s5, (rNum (bytesOf IN) s4 2).2 = s5 := ⟨_, rfl⟩
            obtain ⟨m, hm⟩ : ∃ m, (rNum (bytesOf IN) s5 2).1 = m := ⟨_, rfl⟩
            obtain ⟨s6, h6⟩ : ∃ s6, (rNum (bytesOf IN) s5 2).2 = s6 := ⟨_, rfl⟩
            have HS := Aside0.mk (hs.one ht hn h5 hm h6)
            have HT2 := Aside0.mk (fun (W : World) (h : Rf W g IN s4) => rtake2 h hn h5)
            have HT3 := Aside0.mk (fun (W : World) (h : Rf W g IN s5) => rtake2 h hm h6)
            have zt : (t == 0) = false := beq_eq_false_iff_ne.2 ht
            clear hP hs hn h5 hm h6 ht
            go_wp2_with (first | (go_at_call 40; have _q := HP9; (with_reducible refine (HT3.out _ HP9.out.rd).mono ?_); rintro e w10 ⟨rfl, ho, hr⟩; have HP10 := Aside0.mk (HP9.out.only ho hr); have HG10 := Aside0.mk (blk_only HG9.out ho HNE.out); have HP11 := Aside0.mk (HP10.out.setFar HQ6.out HV6.out 3 (.int .i64 m)); have HP12 := Aside0.mk (HP11.out.mem (below_alloc (Below.refl _ _) (.cells #[.string S, .string ⟨#[]⟩, .int .i64 n, .int .i64 m] 64))); obtain ⟨v13, w13, hrun, hO, hgr, hown⟩ := app_cells_R (c := (S, ⟨#[]⟩, n, m)) HP12.out.o1 (blk_new_set w10 ⟨w6.heap.size, 3, none⟩ (.int .i64 m) _) HP12.out.qlt HKL.out; obtain ⟨A9, c9, h9⟩ := own_slice hO; subst h9; have HPG := Aside0.mk (HP12.out.appC hO hgr); have HBG := five_cells_R (HP12.out.grownblk hgr); obtain ⟨x0, x1, x2, x3, x4, xf⟩ := HBG; obtain ⟨y0, y1, y2, y3, yf⟩ := four_cells_R HG10.out; obtain ⟨f0, f1, f2, f3, f4, ff⟩ := five_cells_R HP10.out.blk; have HRUN := Aside0.mk hrun; clear ho hr hO hgr hown hrun) | (go_at_call 40; have _q := HP7; (with_reducible refine (HT2.out _ HP7.out.rd).mono ?_); rintro e w8 ⟨rfl, ho, hr⟩; have HP8 := Aside0.mk (HP7.out.only ho hr); have HG8 := Aside0.mk (blk_only HG7.out ho HNE.out); have HP9 := Aside0.mk (HP8.out.setFar HQ6.out HV6.out 2 (.int .i64 n)); have HG9 : Aside0 ((w8.setCell ⟨w6.heap.size, 2, none⟩ (.int .i64 n)).heap[w6.heap.size]? = some (.cells #[.string S, .string ⟨#[]⟩, .int .i64 n, .int .i64 0] 64 (0, 0))) := ⟨blk_put HG8.out 2 _ rfl⟩; obtain ⟨g0, g1, g2, g3, gf⟩ := four_cells_R HG8.out; clear ho hr) | (go_at_call 40; (with_reducible refine (HT1.out _ HP6.out.rd).mono ?_); rintro e w7 ⟨rfl, ho, hr⟩; have HP7 := Aside0.mk (HP6.out.only ho hr); have HG7 := Aside0.mk (blk_only HG6.out ho HNE.out); clear ho hr) | (go_at_call 41; (with_reducible refine HTX.out.mono ?_); rintro e w6 ⟨rfl, ho, hr⟩; have HP5 := Aside0.mk (HPd.out.only ho hr); have HP6 := Aside0.mk (HP5.out.mem (below_alloc (Below.refl _ _) (.cells #[.string S, .string ⟨#[]⟩, .int .i64 0, .int .i64 0] 64))); have HG6 : Aside0 ((w6.alloc (.cells #[.string S, .string ⟨#[]⟩, .int .i64 0, .int .i64 0] 64)).heap[w6.heap.size]? = some (.cells #[.string S, .string ⟨#[]⟩, .int .i64 0, .int .i64 0] 64 (0, 0))) := ⟨blk_new _ _⟩; have HV6 := Aside0.mk (HP5.out.rows); have HQ6 := Aside0.mk HP5.out.qlt; have HNE : Aside0 (w6.heap.size ≠ g) := ⟨by have := HP5.out.gq; have := HP5.out.qlt; omega⟩; have hne : w6.heap.size ≠ q := (by have := HP5.out.qlt; omega); clear ho hr) | (at_builtin; refine wp_app rfl _ _ (.tmp 59) (.tmp 61) 32 rfl rfl rfl HRUN.out ?_))
            go_roundw
            case rel => exact ⟨k + 1, _, hlt, by go_num, by rw [HS.out.1, HS.out.2]; exact HPG.out⟩
            case measure => simp [intOf]; omega
        · have hkN : k = N := by omega
          subst hkN
          go_wp2
          go_meet
          case rel =>
            unfold RCutRel
            rw [HPR.out]
            exact ⟨v1, nilV, by rw [cellsK_len]; exact hN, Nat.zero_le _, hP⟩
    by_cases k_2 : k1 = 2
    · subst k_2
      clear k_1
      have hb255 := (rNum1_range HI.out s1)
      obtain ⟨N, hN0⟩ : ∃ N : Nat, (rNum (bytesOf IN) s1 1).1 = (N : Int) := ⟨(rNum (bytesOf IN) s1 1).1.toNat, by omega⟩
      have hN : N ≤ 255 := by omega
      obtain ⟨s2, hs2⟩ : ∃ s2, (rNum (bytesOf IN) s1 1).2 = s2 := ⟨_, rfl⟩
      have HPR := Aside0.mk (HP.out.symm.trans (parse_branch (s2 := s2) (N := N) HK.out (by rw [← hs2, ← hN0])))
      have HT8 := Aside0.mk (rtake1 HI4.out.rd hN0 hs2)
      clear hN0 hs2 hb255
      go_wp2_with (go_at_call 40; (with_reducible refine HT8.out.mono ?_); rintro e w6 ⟨rfl, ho, hr⟩; have HI6 := Aside0.mk (HI4.out.only ho hr); clear ho hr)
      go_loopw [12] (fun i wr => RBranchRel w g q IN s2 N i wr) (fun i _ => N - (intOf i).toNat)
      case atStart => exact ⟨0, _, Nat.zero_le _, rfl, HI6.out⟩
      case round =>
        obtain ⟨k, v2, hk, rfl, hP⟩ := hrel
        by_cases hlt : k < N
        · have HKL : Aside0 ((kidsK (bytesOf IN) s2 k).1.length ≤ 1000) := ⟨by rw [kidsK_len]; omega⟩
          obtain ⟨Y, sk, S, n, s3, s4, hs⟩ := kidStep (bytesOf IN) s2 k
          rw [hs.x, hs.s] at hP
          rw [hs.x] at HKL
          have HS := Aside0.mk hs
          have HPd := Aside0.mk hP
          have HTX := Aside0.mk (rtext 24 hP.rd hs.t hs.ts)
          have HTK := Aside0.mk (fun (W : World) (h : Rf W g IN s3) => rtake2 h hs.nn hs.ns)
          clear hP hs
          go_wp2_with (first | (go_at_call 41; (with_reducible refine HTX.out.mono ?_); rintro e w6 ⟨rfl, ho, hr⟩; have HP5 := Aside0.mk (HPd.out.only ho hr); have HP6 := Aside0.mk (HP5.out.mem (below_alloc (Below.refl _ _) (.cells #[.string S, .int .i64 0] 65))); have HG6 : Aside0 ((w6.alloc (.cells #[.string S, .int .i64 0] 65)).heap[w6.heap.size]? = some (.cells #[.string S, .int .i64 0] 65 (0, 0))) := ⟨blk_new _ _⟩; have HV6 := Aside0.mk (HP5.out.rows); have HQ6 := Aside0.mk HP5.out.qlt; have HNE : Aside0 (w6.heap.size ≠ g) := ⟨by have := HP5.out.gq; have := HP5.out.qlt; omega⟩; have hne : w6.heap.size ≠ q := (by have := HP5.out.qlt; omega); clear ho hr) | (go_at_call 40; (with_reducible refine (HTK.out _ HP6.out.rd).mono ?_); rintro e w7 ⟨rfl, ho, hr⟩; have HP7 := Aside0.mk (HP6.out.only ho hr); have HG7 := Aside0.mk (blk_only HG6.out ho HNE.out); have HP8 := Aside0.mk (HP7.out.setFar HQ6.out HV6.out 1 (.int .i64 n)); have HP9 := Aside0.mk (HP8.out.mem (below_alloc (Below.refl _ _) (.cells #[.string S, .int .i64 n] 65))); obtain ⟨v9, w9, hrun, hO, hgr, hown⟩ := app_kids_R (c := (S, n)) HP9.out.o2 (blk_new_set w7 ⟨w6.heap.size, 1, none⟩ (.int .i64 n) _) HP9.out.qlt HKL.out; obtain ⟨A9, c9, h9⟩ := own_slice hO; subst h9; have HPG := Aside0.mk (HP9.out.appK hO hgr); have HBG := five_cells_R (HP9.out.grownblk2 hgr); obtain ⟨x0, x1, x2, x3, x4, xf⟩ := HBG; have y0 := blk_cell HG7.out 0; have y1 := blk_cell HG7.out 1; have yf := blk_frozen HG7.out; obtain ⟨z0, z1_, z2, z3, z4, zf⟩ := five_cells_R HP7.out.blk; have HRUN := Aside0.mk hrun; clear ho hr hO hgr hown hrun) | (at_builtin; refine wp_app rfl _ _ (.tmp 80) (.tmp 82) 33 rfl rfl rfl HRUN.out ?_))
          go_roundw
          case rel => exact ⟨k + 1, _, hlt, by go_num, by rw [HS.out.x2, HS.out.s2']; exact HPG.out⟩
          case measure => simp [intOf]; omega
        · have hkN : k = N := by omega
          subst hkN
          go_wp2
          go_meet
          case rel =>
            unfold RCutRel
            rw [HPR.out]
            exact ⟨nilV, v2, Nat.zero_le _, by rw [kidsK_len]; exact hN, hP⟩
    by_cases k_3 : k1 = 3
    · subst k_3
      clear k_1 k_2
      obtain ⟨S, hS⟩ : ∃ S, strOfNums (rText (bytesOf IN) s1 240).1 = S := ⟨_, rfl⟩
      obtain ⟨s2, hs2⟩ : ∃ s2, (rText (bytesOf IN) s1 240).2 = s2 := ⟨_, rfl⟩
      obtain ⟨n, hn⟩ : ∃ n, (rNum (bytesOf IN) s2 2).1 = n := ⟨_, rfl⟩
      obtain ⟨s3, hs3⟩ : ∃ s3, (rNum (bytesOf IN) s2 2).2 = s3 := ⟨_, rfl⟩
      have HPR : Aside0 (pr = ((3, [], [], S, n), s3)) := ⟨HP.out.symm.trans (by rw [parse_chain (x := (rText (bytesOf IN) s1 240).1) (s2 := s2) (n := n) (s3 := s3) HK.out (by rw [← hs2]) (by rw [← hn, ← hs3]), hS])⟩
      have HTX := Aside0.mk (rtext 240 HI4.out.rd hS hs2)
      have HTK := Aside0.mk (fun (W : World) (h : Rf W g IN s2) => rtake2 h hn hs3)
      clear hS hs2 hn hs3
      go_wp2_with (first | (go_at_call 41; (with_reducible refine HTX.out.mono ?_); rintro e w6 ⟨rfl, ho, hr⟩; have HP6 := Aside0.mk (HI4.out.only ho hr); have HP7 := Aside0.mk (HP6.out.put 3 (.string S) rfl); obtain ⟨x0, x1, x2, x3, x4, xf⟩ := five_cells_R HP6.out.blk; clear ho hr) | (go_at_call 40; (with_reducible refine (HTK.out _ HP7.out.rd).mono ?_); rintro e w7 ⟨rfl, ho, hr⟩; have HP8 := Aside0.mk (HP7.out.only ho hr); have HP9 := Aside0.mk (HP8.out.put 4 (.int .i64 n) rfl); obtain ⟨y0, y1, y2, y3, y4, yf⟩ := five_cells_R HP8.out.blk; clear ho hr))
      go_meet
      case rel =>
        unfold RCutRel
        rw [HPR.out]
        exact ⟨nilV, nilV, Nat.zero_le _, Nat.zero_le _, HP9.out⟩
    have z_1 : (k1 == 1) = false := beq_eq_false_iff_ne.2 k_1
    have z_2 : (k1 == 2) = false := beq_eq_false_iff_ne.2 k_2
    have z_3 : (k1 == 3) = false := beq_eq_false_iff_ne.2 k_3
    have HPR := Aside0.mk (HP.out.symm.trans (parse_none HK.out k_1 k_2 k_3))
    clear k_1 k_2 k_3
    go_wp2
    go_meet
    case rel =>
      unfold RCutRel
      rw [HPR.out]
      exact ⟨nilV, nilV, Nat.zero_le _, Nat.zero_le _, HI4.out⟩
  case rest =>
    rename World => wc
    obtain ⟨v1, v2, hx, hy, h⟩ := hcut
    obtain ⟨⟨k, xs, ys, t, n⟩, s⟩ := pr
    simp only at hx hy h HE
    obtain ⟨d0, d1, d2, d3, d4, df⟩ := five_cells_R h.res
    have HQ := Aside0.mk h
    have hq := h.qlt
    have hse := h.rd.blk.c2
    have hlo : w.heap.size ≠ q := by have := h.lo; have := h.gq; omega
    by_cases he : s.e = 0
    · rw [if_neg (by simp [he])] at HE
      have z2 : (s.e != 0) = false := by simp [he]
      have hR1 := cells_R2 h.o1 (Nat.le_refl _)
      have hR2 := kids_R2 h.o2 (Nat.le_refl _)
      have hX1 : (xs.map s64).length ≤ 255 := by rw [List.length_map]; exact hx
      have hY1 : (ys.map s65).length ≤ 255 := by rw [List.length_map]; exact hy
      have HOK : Aside0 (okP (k, xs, ys, t, n) (bytesOf B) = (Pure.rightB k ((xs.map s64).map Pure.cv) ((ys.map s65).map Pure.cw) t n && decide (Pure.encL k ((xs.map s64).map Pure.cv) ((ys.map s65).map Pure.cw) t n = bytesOf B))) := ⟨by rw [cv_s64, cw_s65]; rfl⟩
      generalize xs.map s64 = X at hR1 hX1 HOK
      generalize ys.map s65 = Y at hR2 hY1 HOK
      obtain ⟨A1, c1, rfl, hc1, hC1⟩ := Kd.R_reads hR1
      obtain ⟨A3, c3, rfl, hc3, hC3⟩ := Kd.R_reads hR2
      obtain ⟨e0, e1, e2, e3, e4, ef⟩ := five_cells_R h.blk
      have HRT := Aside0.mk (rright_any k X Y t n hC1 hc1 hC3 hc3 (by omega) (by omega))
      have HBY := Aside0.mk (fun (W : World) (hb : Below wc.heap.size wc W) (hr : Pure.rightB k (X.map Pure.cv) (Y.map Pure.cw) t n = true) => rbytes_any (w := W) k X Y t n (Kd.C_below hC1 hb) hc1 (Kd.C_below hC3 hb) hc3 hr)
      have HLB : Aside0 (Pure.rightB k (X.map Pure.cv) (Y.map Pure.cw) t n = true → (Pure.encL k (X.map Pure.cv) (Y.map Pure.cw) t n).all isB = true) := ⟨fun hr => encL_by hr⟩
      generalize Pure.encL k (X.map Pure.cv) (Y.map Pure.cw) t n = L at HBY HOK HLB
      generalize Pure.rightB k (X.map Pure.cv) (Y.map Pure.cw) t n = ok at HRT HBY HOK HLB
      clear hc1 hC1 hc3 hC3 hx hy h he hq hR1 hR2 hX1 hY1
      cases ok
      · rw [HOK.out, Bool.false_and, if_neg (by decide)] at HE
        clear HBY HLB HOK
        obtain rfl := HE.out
        go_wp2_with (go_at_call 18; (with_reducible refine HRT.out.mono ?_); rintro e w7 ⟨rfl, hb⟩; have HQ7 := Aside0.mk (HQ.out.mem hb); obtain ⟨f0, f1, f2, f3, f4, ff⟩ := five_cells_R HQ7.out.res; clear hb)
        exact rdec_bad 3 HQ7.out.below HQ7.out.res rfl rfl rfl
      · rw [HOK.out, Bool.true_and] at HE
        have HLC := Aside0.mk (HLB.out rfl)
        have HB2 := Aside0.mk (fun W hb => HBY.out W hb rfl)
        clear HLB HBY HOK
        by_cases hq : L = bytesOf B
        · rw [if_pos (decide_eq_true hq)] at HE
          have hSB : strOfNums L = B := by rw [hq, Pure.str_bytes]
          rw [hSB] at HB2
          clear hq hSB
          obtain rfl := HE.out
          have y2 : (B.toList == B.toList) = true := by simp
          go_wp2_with (first | (go_at_call 18; (with_reducible refine HRT.out.mono ?_); rintro e w7 ⟨rfl, hb⟩; have HQ7 := Aside0.mk (HQ.out.mem hb); have HB7 := Aside0.mk hb; obtain ⟨f0, f1, f2, f3, f4, ff⟩ := five_cells_R HQ7.out.res; obtain ⟨j0, j1, j2, j3, j4, jf⟩ := five_cells_R HQ7.out.blk; clear hb) | (go_at_call 35; (with_reducible refine (HB2.out _ HB7.out).mono ?_); rintro e w8 ⟨rfl, hb⟩; have HQ8 := Aside0.mk (HQ7.out.mem hb); obtain ⟨i0, i1, i2, i3, i4, if_⟩ := five_cells_R HQ8.out.res; obtain ⟨l0, l1, l2, l3, l4, lf⟩ := five_cells_R HQ8.out.blk; clear hb))
          exact rdec_good HQ8.out rfl rfl rfl
        · rw [if_neg (by simp [hq])] at HE
          have hSB : strOfNums L ≠ B := fun h => hq (by rw [← h, Pure.bytes_str HLC.out])
          generalize strOfNums L = SB at HB2 hSB
          have y2 : (SB.toList == B.toList) = false := beq_eq_false_iff_ne.2 (fun h => hSB (Pure.toList_inj.1 h))
          have y3 : (SB.toList = B.toList) = False := eq_false (fun h => hSB (Pure.toList_inj.1 h))
          clear hq hSB
          obtain rfl := HE.out
          go_wp2_with (first | (go_at_call 18; (with_reducible refine HRT.out.mono ?_); rintro e w7 ⟨rfl, hb⟩; have HQ7 := Aside0.mk (HQ.out.mem hb); have HB7 := Aside0.mk hb; obtain ⟨f0, f1, f2, f3, f4, ff⟩ := five_cells_R HQ7.out.res; obtain ⟨j0, j1, j2, j3, j4, jf⟩ := five_cells_R HQ7.out.blk; clear hb) | (go_at_call 35; (with_reducible refine (HB2.out _ HB7.out).mono ?_); rintro e w8 ⟨rfl, hb⟩; have HQ8 := Aside0.mk (HQ7.out.mem hb); obtain ⟨i0, i1, i2, i3, i4, if_⟩ := five_cells_R HQ8.out.res; clear hb))
          exact rdec_bad 3 HQ8.out.below HQ8.out.res rfl rfl rfl
    · have z2 : (s.e != 0) = true := bne_iff_ne.2 he
      rw [if_pos he] at HE
      clear hq hx hy h he
      obtain rfl := HE.out
      go_wp2
      exact rdec_bad 3 HQ.out.below HQ.out.res rfl rfl rfl
theorem rdecode_any {w : World} (B : ByteArray) : Calls Try.prog 19 #[.string B] w (RDecOut w (decL (bytesOf B))) := by
  by_cases hl : B.size = 256
  · cases ho : Pure.opened (bytesOf B)
    · have : decL (bytesOf B) = (page0, 5) := by unfold decL; rw [if_neg (by rw [bytesOf_length]; omega), if_pos ho]
      rw [this]
      exact rdec_sum hl ho
    · exact rdec_page hl ho
  · have : decL (bytesOf B) = (page0, 4) := by unfold decL; rw [if_pos (by rw [bytesOf_length]; exact hl)]
    rw [this]
    exact rdec_long hl
def sapwoodref04_Decode.f (_k : Nat) (a0 : ByteArray) : Option (Int × (List (S64)) × (List (S65)) × ByteArray × Int × Int) :=
  some ((decL (bytesOf a0)).1.1, (decL (bytesOf a0)).1.2.1.map s64, (decL (bytesOf a0)).1.2.2.1.map s65, (decL (bytesOf a0)).1.2.2.2.1, (decL (bytesOf a0)).1.2.2.2.2, (decL (bytesOf a0)).2)
theorem sapwoodref04_Decode.mono : ∀ a0 k, LeO (sapwoodref04_Decode.f k a0) (sapwoodref04_Decode.f (k + 1) a0) := fun _ _ => LeO.refl _
theorem sapwoodref04_Decode.calls (k : Nat) (a0 : ByteArray) (r1 : Int) (r2 : List (S64)) (r3 : List (S65)) (r4 : ByteArray) (r5 : Int) (r6 : Int) (w : World) (h : sapwoodref04_Decode.f k a0 = some (r1, r2, r3, r4, r5, r6)) :
    Calls Try.prog 19 #[.string a0] w fun e w' => ∃ v1_ v2_ : Value, e = .returned (.tuple #[.agg #[.int .i64 r1, v1_, v2_, .string r4, .int .i64 r5], .int .i64 r6]) ∧ Kd.R k64 64 w' w.heap.size (fun _ => True) v1_ r2 ∧ Kd.R k65 65 w' w.heap.size (fun _ => True) v2_ r3 ∧ Below w.heap.size w w' := by
  unfold sapwoodref04_Decode.f at h
  simp only [Option.some.injEq, Prod.mk.injEq] at h
  obtain ⟨rfl, rfl, rfl, rfl, rfl, rfl⟩ := h
  exact (rdecode_any a0).mono fun e w' ⟨v1, v2, h1, h2, h3, h4⟩ => ⟨v1, v2, h1, h2, h3, h4⟩
end Go.Proofs.Ytgbcfkcnoncgdaa.Hand
