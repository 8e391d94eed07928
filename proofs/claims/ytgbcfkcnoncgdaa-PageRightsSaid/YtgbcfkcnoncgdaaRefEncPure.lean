/- A page's bytes: what the document's Encode comes to. -/
import Derived.Test.YtgbcfkcnoncgdaaEncPure
import Derived.Test.YtgbcfkcnoncgdaaRefRightPure
import Derived.Test.YtgbcfkcnoncgdaaSp13
namespace Go.Proofs.Ytgbcfkcnoncgdaa.Pure
open Go.Proofs.Ytgbcfkcnoncgdaa.Hand
open Go.RowKit Go.Proofs.Ytgbcfkcnoncgdaa.Sp Go.Proofs.YtgbcfkcnoncgdaaW.PrintWords Go.Proofs.YtgbcfkcnoncgdaaW.PrintLast Go.Proofs.YtgbcfkcnoncgdaaW.PrintMore

set_option linter.unusedVariables false
theorem i64_and_nat (a b : Nat) (ha : a < 9223372036854775808) (hb : b < 9223372036854775808) : bits .and .i64 (a : Int) (b : Int) = ((a &&& b : Nat) : Int) := by
  have hx : a &&& b < 2 ^ 63 := Nat.and_lt_two_pow _ (by omega)
  show IntKind.i64.wrap ((BitVec.ofInt 64 (a : Int) &&& BitVec.ofInt 64 (b : Int)).toNat : Int) = _
  rw [BitVec.toNat_and, ofInt_i64 a ha, ofInt_i64 b hb, IntKind.wrap_i64]
  omega
theorem and255 (x : Int) (h0 : 0 ≤ x) (h1 : x < 9223372036854775808) : bits .and .i64 x 255 = x % 256 := by
  obtain ⟨m, rfl⟩ := Int.eq_ofNat_of_zero_le h0
  rw [show (255 : Int) = ((255 : Nat) : Int) from rfl, i64_and_nat m 255 (by omega) (by omega), Nat.and_two_pow_sub_one_eq_mod m 8]
  omega

theorem str_size (l : List Int) : (strOfNums l).size = l.length := by
  rw [← data_length]; simp [strOfNums]
theorem num1_f (v : Int) (h0 : 0 ≤ v) (h1 : v < 9223372036854775808) (k : Nat) (hk : 2 < k) : sapwoodref01_Number.f k v 1 = some (strOfNums [v % 256]) := by
  obtain ⟨k, rfl⟩ : ∃ m, k = m + 2 := ⟨k - 2, by omega⟩
  unfold sapwoodref01_Number.f
  simp only [sapwoodref01_Number.l0]
  have w1 : wrap64 (0 + 1) = 1 := by rw [wrap_in (by omega) (by omega)]; rfl
  rw [w1, and255 v h0 h1, if_pos (by decide), Option.bind_some, if_pos (by rw [str_size]; show 1 + 0 ≤ 9223372036854775807; omega), if_neg (by decide)]
  congr 1
  rw [show (⟨#[]⟩ : ByteArray) = strOfNums [] from rfl, ← str_append]
  congr 1
  simp only [List.append_nil]
  congr 1
  omega
theorem num2_f (v : Int) (h0 : 0 ≤ v) (h1 : v < 9223372036854775808) (k : Nat) (hk : 3 < k) : sapwoodref01_Number.f k v 2 = some (strOfNums (num16 v)) := by
  obtain ⟨k, rfl⟩ : ∃ m, k = m + 3 := ⟨k - 3, by omega⟩
  unfold sapwoodref01_Number.f
  simp only [sapwoodref01_Number.l0]
  have w1 : wrap64 (0 + 1) = 1 := by rw [wrap_in (by omega) (by omega)]; rfl
  have w2 : wrap64 (1 + 1) = 2 := by rw [wrap_in (by omega) (by omega)]; rfl
  rw [w1, w2, and255 v h0 h1, and255 (v / 256) (by omega) (by omega), if_pos (by decide), Option.bind_some, if_pos (by rw [str_size]; show 1 + 0 ≤ 9223372036854775807; omega), if_pos (by decide), Option.bind_some]
  have e : strOfNums [v % 256 % 256] ++ (⟨#[]⟩ : ByteArray) = strOfNums [v % 256] := by
    rw [show (⟨#[]⟩ : ByteArray) = strOfNums [] from rfl, ← str_append]
    congr 1
    simp only [List.append_nil]
    congr 1
    omega
  rw [e, if_pos (by rw [str_size, str_size]; show 1 + 1 ≤ 9223372036854775807; omega), if_neg (by decide), ← str_append]
  congr 2
  unfold num16
  simp only [List.cons_append, List.nil_append]
  congr 1
  omega
theorem text_f (s : ByteArray) (hs : s.size ≤ 65535) (k : Nat) (hk : 3 < k) : sapwoodref01_Text.f k s = some (strOfNums (textL s)) := by
  unfold sapwoodref01_Text.f
  rw [if_neg (by omega), num2_f _ (by omega) (by omega) k hk, Option.bind_some, if_pos (by rw [str_size, num16_length]; omega)]
  unfold textL
  rw [str_append, str_bytes]

theorem byte0 : (⟨#[0]⟩ : ByteArray) = strOfNums [0] := rfl
theorem byte1 : (⟨#[1]⟩ : ByteArray) = strOfNums [1] := rfl
theorem padL_snoc (x : List Int) (h : x.length < 252) : padL (x ++ [0]) = padL x := by
  unfold padL
  obtain ⟨n, hn⟩ : ∃ n, 252 - x.length = n + 1 := ⟨252 - x.length - 1, by omega⟩
  rw [List.length_append, List.length_singleton, hn, show 252 - (x.length + 1) = n by omega, List.replicate_succ, List.append_assoc]
  rfl
theorem pad_loop (d : Nat) : ∀ (k : Nat) (x : List Int), x.length ≤ 252 → 252 - x.length = d → d + 3000 < k → x.all isB = true → sapwoodref04_Bytes.l2 k (strOfNums x) = some (strOfNums (sealL (padL x))) := by
  induction d with
  | zero =>
    intro k x hx hd hk hB
    obtain ⟨k, rfl⟩ : ∃ m, k = m + 1 := ⟨k - 1, by omega⟩
    rw [sapwoodref04_Bytes.l2.eq_def]
    simp only []
    rw [if_neg (by rw [str_size]; omega), refSeal_f _ (by rw [str_size]; omega) k (by rw [str_size]; omega), Option.bind_some, bytes_str hB]
    have : padL x = x := by unfold padL; rw [show 252 - x.length = 0 by omega]; simp
    rw [this]
  | succ d ih =>
    intro k x hx hd hk hB
    obtain ⟨k, rfl⟩ : ∃ m, k = m + 1 := ⟨k - 1, by omega⟩
    rw [sapwoodref04_Bytes.l2.eq_def]
    simp only []
    rw [if_pos (by rw [str_size]; omega), if_pos (by rw [str_size]; omega), byte0, ← str_append,
      ih k (x ++ [0]) (by rw [List.length_append]; simp; omega) (by rw [List.length_append]; simp; omega) (by omega) (by rw [List.all_append, hB]; rfl), padL_snoc x (by omega)]
theorem pad_j (k : Nat) (x : List Int) (hx : x.length ≤ 252) (hk : 4000 < k) (hB : x.all isB = true) : sapwoodref04_Bytes.j2 k (strOfNums x) = some (strOfNums (sealL (padL x))) := by
  obtain ⟨k, rfl⟩ : ∃ m, k = m + 1 := ⟨k - 1, by omega⟩
  simp only [sapwoodref04_Bytes.j2]
  exact pad_loop _ k x hx rfl (by omega) hB

theorem valOk_num {v : ByteArray} {n m : Int} (h : valOk v n m = true) (hm : m ≠ 0) : 0 ≤ n ∧ n ≤ 400 ∧ 0 ≤ m ∧ m ≤ 511 := by
  unfold valOk numOk at h
  simp only [Bool.or_eq_true, Bool.and_eq_true, decide_eq_true_eq] at h
  omega
theorem numOk_num {m : Int} (h : numOk m = true) : 0 ≤ m ∧ m ≤ 511 := by
  unfold numOk at h
  simp only [decide_eq_true_eq] at h
  omega

theorem cellL_zero (c : S64) (h : c.f3 = 0) : cellL (cv c) = textL c.f0 ++ ([0] ++ textL c.f1) := by unfold cellL; exact congrArg _ (if_pos h)
theorem cellL_one (c : S64) (h : ¬ c.f3 = 0) : cellL (cv c) = textL c.f0 ++ ([1] ++ num16 c.f2 ++ num16 c.f3) := by unfold cellL; exact congrArg _ (if_neg h)
theorem kidL_cw (c : S65) : kidL (cw c) = textL c.f0 ++ num16 c.f1 := rfl
theorem nx_nat (i : Nat) (h : i ≤ 1000000) : wrap64 ((i : Int) + 1) = ((i + 1 : Nat) : Int) := by rw [wrap_in (by omega) (by omega)]; omega
-- what omega must not look into
attribute [local irreducible] textL cellL kidL num16 sealL padL strOfNums

theorem refEnc_cells (cells : List S64) (kind : Int) (kids : List S65) (piece : ByteArray) (next : Int) (hc : cells.length ≤ 4) (d : Nat) : ∀ (k : Nat) (x : List Int) (p : ByteArray) (i : Nat), i ≤ cells.length → cells.length - i = d → d + 4100 < k →
    cellsOk p ((cells.map cv).drop i) = true → x.all isB = true → x.length + (((cells.map cv).drop i).flatMap cellL).length ≤ 252 →
    sapwoodref04_Bytes.l0 k (strOfNums x) (cells.length : Int) (i : Int) kind cells kids piece next = some (strOfNums (sealL (padL (x ++ ((cells.map cv).drop i).flatMap cellL)))) := by
  induction d with
  | zero =>
    intro k x p i hi hd hk ho hx hl
    obtain ⟨k, rfl⟩ : ∃ m, k = m + 1 := ⟨k - 1, by omega⟩
    simp only [sapwoodref04_Bytes.l0]
    have hdr : (cells.map cv).drop i = [] := List.drop_of_length_le (by simp; omega)
    rw [hdr] at hl ⊢
    rw [if_neg (by omega)]
    simp only [List.flatMap_nil, List.append_nil] at hl ⊢
    exact pad_j k x hl (by omega) hx
  | succ d ih =>
    intro k x p i hi hd hk ho hx hl
    obtain ⟨k, rfl⟩ : ∃ m, k = m + 1 := ⟨k - 1, by omega⟩
    have hia : i < cells.length := by omega
    simp only [sapwoodref04_Bytes.l0]
    rw [if_pos (by omega), if_pos (by omega), if_pos (by omega), rd64 hia]
    rw [getElem_pos_map hia] at ho hl ⊢
    simp only [cellsOk, Bool.and_eq_true] at ho
    rw [List.flatMap_cons, List.length_append] at hl
    have ho1 : keyOk cells[i].f0 = true := ho.1.1.1
    have ho2 : valOk cells[i].f1 cells[i].f2 cells[i].f3 = true := ho.1.2
    have hk1 := keyOk_len ho1
    have hk2 := valOk_len ho2
    have t1 := textL_length cells[i].f0
    have t2 := textL_length cells[i].f1
    have hx0 : x.length ≤ 252 := by omega
    have fin := ih k (x ++ cellL (cv cells[i])) _ (i + 1) (by omega) (by omega) (by omega) ho.2 (by rw [List.all_append, hx, cellL_all]; rfl) (by rw [List.length_append]; omega)
    rw [List.append_assoc] at fin
    rw [List.flatMap_cons]
    rw [nx_nat i (by omega), text_f _ (by omega) k (by omega), Option.bind_some, if_pos (by rw [str_size, str_size]; omega), byte0, byte1]
    by_cases h : cells[i].f3 = 0
    · have hcell : cellL (cv cells[i]) = textL cells[i].f0 ++ ([0] ++ textL cells[i].f1) := by
        unfold cellL; exact congrArg _ (if_pos h)
      rw [if_pos h, ← str_append, ← str_append, text_f _ (by omega) k (by omega), Option.bind_some, if_pos (by rw [str_size, List.length_append]; omega),
        if_pos (by rw [str_size, str_size, List.length_append, List.length_append]; simp; omega), ← str_append]
      have e : x ++ textL cells[i].f0 ++ [0] ++ textL cells[i].f1 = x ++ cellL (cv cells[i]) := by rw [hcell]; simp
      rw [e]
      exact fin
    · have hcell : cellL (cv cells[i]) = textL cells[i].f0 ++ ([1] ++ num16 cells[i].f2 ++ num16 cells[i].f3) := by
        unfold cellL; exact congrArg _ (if_neg h)
      have hv := valOk_num ho2 h
      rw [if_neg h, ← str_append, ← str_append, num2_f _ hv.1 (by omega) k (by omega), num2_f _ hv.2.2.1 (by omega) k (by omega), Option.bind_some, if_pos (by rw [str_size, List.length_append]; omega),
        if_pos (by rw [str_size, str_size, List.length_append, List.length_append, num16_length]; simp; omega), ← str_append, Option.bind_some,
        if_pos (by simp only [str_size, List.length_append, num16_length, List.length_cons, List.length_nil]; omega), ← str_append]
      have e : x ++ textL cells[i].f0 ++ [1] ++ num16 cells[i].f2 ++ num16 cells[i].f3 = x ++ cellL (cv cells[i]) := by rw [hcell]; simp
      rw [e]
      exact fin

theorem refEnc_kids (cells : List S64) (kind : Int) (kids : List S65) (piece : ByteArray) (next : Int) (hc : kids.length ≤ 6) (d : Nat) : ∀ (k : Nat) (x : List Int) (p : ByteArray) (i : Nat), i ≤ kids.length → kids.length - i = d → d + 4100 < k →
    kidsOk p ((kids.map cw).drop i) = true → x.all isB = true → x.length + (((kids.map cw).drop i).flatMap kidL).length ≤ 252 →
    sapwoodref04_Bytes.l1 k (strOfNums x) (kids.length : Int) (i : Int) kind cells kids piece next = some (strOfNums (sealL (padL (x ++ ((kids.map cw).drop i).flatMap kidL)))) := by
  induction d with
  | zero =>
    intro k x p i hi hd hk ho hx hl
    obtain ⟨k, rfl⟩ : ∃ m, k = m + 1 := ⟨k - 1, by omega⟩
    simp only [sapwoodref04_Bytes.l1]
    have hdr : (kids.map cw).drop i = [] := List.drop_of_length_le (by simp; omega)
    rw [hdr] at hl ⊢
    rw [if_neg (by omega)]
    simp only [List.flatMap_nil, List.append_nil] at hl ⊢
    exact pad_j k x hl (by omega) hx
  | succ d ih =>
    intro k x p i hi hd hk ho hx hl
    obtain ⟨k, rfl⟩ : ∃ m, k = m + 1 := ⟨k - 1, by omega⟩
    have hia : i < kids.length := by omega
    simp only [sapwoodref04_Bytes.l1]
    rw [if_pos (by omega), if_pos (by omega), if_pos (by omega), rd65 hia]
    rw [getElem_pos_map' hia] at ho hl ⊢
    simp only [kidsOk, Bool.and_eq_true] at ho
    rw [List.flatMap_cons, List.length_append] at hl
    have ho1 : keyOk kids[i].f0 = true := ho.1.1.1
    have hv := numOk_num (m := kids[i].f1) ho.1.2
    have hk1 := keyOk_len ho1
    have t1 := textL_length kids[i].f0
    have hx0 : x.length ≤ 252 := by omega
    have fin := ih k (x ++ kidL (cw kids[i])) _ (i + 1) (by omega) (by omega) (by omega) ho.2 (by rw [List.all_append, hx, kidL_all]; rfl) (by rw [List.length_append]; omega)
    rw [List.append_assoc] at fin
    rw [List.flatMap_cons]
    have hcell := kidL_cw kids[i]
    rw [nx_nat i (by omega), text_f _ (by omega) k (by omega), Option.bind_some, if_pos (by rw [str_size, str_size]; omega), num2_f _ hv.1 (by omega) k (by omega), ← str_append, Option.bind_some,
      if_pos (by rw [str_size, str_size, List.length_append, num16_length]; omega), ← str_append]
    have e : x ++ textL kids[i].f0 ++ num16 kids[i].f1 = x ++ kidL (cw kids[i]) := by rw [hcell]; simp
    rw [e]
    exact fin

theorem refBytes_f (kind : Int) (cells : List S64) (kids : List S65) (piece : ByteArray) (next : Int) (k : Nat) (hk : 5000 < k) (h : rightB kind (cells.map cv) (kids.map cw) piece next = true) :
    sapwoodref04_Bytes.f k kind cells kids piece next = some (strOfNums (encL kind (cells.map cv) (kids.map cw) piece next)) := by
  have hlen := body_len h
  have hall := bodyL_all kind (cells.map cv) (kids.map cw) piece next
  unfold encL
  unfold rightB at h
  unfold bodyL at hlen hall ⊢
  unfold sapwoodref04_Bytes.f
  rw [List.length_map, List.length_map] at h
  rw [List.length_map, List.length_map] at hlen hall ⊢
  by_cases h1 : kind = 1
  · rw [if_pos h1] at h hlen hall ⊢
    simp only [Bool.and_eq_true, decide_eq_true_eq] at h
    have := refEnc_cells cells kind kids piece next h.1.2 cells.length k ([kind % 256] ++ [(cells.length : Int) % 256]) e0 0 (by omega) (by omega) (by omega) h.2
      (by rw [List.all_append, List.all_cons, List.all_cons, byte_all, byte_all]; rfl) (by simp only [List.length_append, List.length_cons, List.length_nil, List.drop_zero] at hlen ⊢; omega)
    rw [List.drop_zero] at this
    rw [num1_f kind (by omega) (by omega) k (by omega), Option.bind_some, if_pos h1, num1_f _ (by omega) (by omega) k (by omega), Option.bind_some, if_pos (by rw [str_size, str_size]; show 1 + 1 ≤ 9223372036854775807; omega), ← str_append]
    exact this
  · rw [if_neg h1] at h hlen hall ⊢
    by_cases h2 : kind = 2
    · rw [if_pos h2] at h hlen hall ⊢
      simp only [Bool.and_eq_true, decide_eq_true_eq] at h
      have := refEnc_kids cells kind kids piece next h.1.2.2 kids.length k ([kind % 256] ++ [(kids.length : Int) % 256]) e0 0 (by omega) (by omega) (by omega) h.2
        (by rw [List.all_append, List.all_cons, List.all_cons, byte_all, byte_all]; rfl) (by simp only [List.length_append, List.length_cons, List.length_nil, List.drop_zero] at hlen ⊢; omega)
      rw [List.drop_zero] at this
      rw [num1_f kind (by omega) (by omega) k (by omega), Option.bind_some, if_neg h1, if_pos h2, num1_f _ (by omega) (by omega) k (by omega), Option.bind_some, if_pos (by rw [str_size, str_size]; show 1 + 1 ≤ 9223372036854775807; omega), ← str_append]
      exact this
    · rw [if_neg h2] at h hlen hall ⊢
      by_cases h3 : kind = 3
      · rw [if_pos h3] at h hlen hall ⊢
        simp only [Bool.and_eq_true, Bool.or_eq_true, decide_eq_true_eq] at h
        have htl := textL_length piece
        have hn : 0 ≤ next ∧ next ≤ 511 := by
          rcases h.2 with h | h
          · omega
          · exact numOk_num h
        rw [num1_f kind (by omega) (by omega) k (by omega), Option.bind_some, if_neg h1, if_neg h2, if_pos h3, text_f piece (by omega) k (by omega), Option.bind_some, if_pos (by rw [str_size, str_size, htl]; simp; omega),
          num2_f next hn.1 (by omega) k (by omega), Option.bind_some, ← str_append, if_pos (by rw [str_size, str_size, List.length_append, htl, num16_length]; simp; omega), ← str_append]
        have he : [kind % 256] ++ textL piece ++ num16 next = kind % 256 :: (textL piece ++ num16 next) := by simp
        rw [he]
        exact pad_j k _ hlen (by omega) hall
      · rw [if_neg h3] at h
        cases h

theorem refEncode_f (kind : Int) (cells : List S64) (kids : List S65) (piece : ByteArray) (next : Int) (hc : cells.length ≤ 1000000) (hd : kids.length ≤ 1000000) (k : Nat) (hk : 2 * cells.length + kids.length + 5000 < k) :
    sapwoodref04_Encode.f k kind cells kids piece next = some (if rightB kind (cells.map cv) (kids.map cw) piece next = true then (strOfNums (encL kind (cells.map cv) (kids.map cw) piece next), 0) else (⟨#[]⟩, 1)) := by
  unfold sapwoodref04_Encode.f
  rw [refRight_f kind cells kids piece next hc hd k (by omega), Option.bind_some]
  by_cases h : rightB kind (cells.map cv) (kids.map cw) piece next = true
  · rw [if_pos h, if_pos h, refBytes_f kind cells kids piece next k (by omega) h, Option.bind_some]
  · rw [if_neg h, if_neg h]
end Go.Proofs.Ytgbcfkcnoncgdaa.Pure
