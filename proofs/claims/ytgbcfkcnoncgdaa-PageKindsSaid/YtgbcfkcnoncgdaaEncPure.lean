/- A page's bytes: what the program's Encode comes to. -/
import Derived.Test.YtgbcfkcnoncgdaaRightPure
namespace Go.Proofs.Ytgbcfkcnoncgdaa.Pure
open Go.Proofs.Ytgbcfkcnoncgdaa.Hand
open Go.RowKit Go.Proofs.Ytgbcfkcnoncgdaa.Sp Go.Proofs.YtgbcfkcnoncgdaaW.PrintWords Go.Proofs.YtgbcfkcnoncgdaaW.PrintLast Go.Proofs.YtgbcfkcnoncgdaaW.PrintMore

def num16 (v : Int) : List Int := [v / 256 % 256, v % 256]
def textL (s : ByteArray) : List Int := num16 (s.size : Int) ++ bytesOf s
def cellL (c : S57) : List Int := textL c.f0 ++ (if c.f3 = 0 then [0] ++ textL c.f1 else [1] ++ num16 c.f2 ++ num16 c.f3)
def kidL (c : S61) : List Int := textL c.f0 ++ num16 c.f1
def bodyL (kind : Int) (cells : List S57) (kids : List S61) (piece : ByteArray) (next : Int) : List Int :=
  (kind % 256) :: (if kind = 1 then ((cells.length : Int) % 256) :: cells.flatMap cellL else if kind = 2 then ((kids.length : Int) % 256) :: kids.flatMap kidL else if kind = 3 then textL piece ++ num16 next else [])
def padL (l : List Int) : List Int := l ++ List.replicate (252 - l.length) 0
def encL (kind : Int) (cells : List S57) (kids : List S61) (piece : ByteArray) (next : Int) : List Int := sealL (padL (bodyL kind cells kids piece next))

theorem num16_length (v : Int) : (num16 v).length = 2 := rfl
theorem textL_length (s : ByteArray) : (textL s).length = 2 + s.size := by unfold textL; rw [List.length_append, bytesOf_length, num16_length]
theorem num16_all (v : Int) : (num16 v).all isB = true := by
  simp only [num16, List.all_cons, List.all_nil, isB, Bool.and_true, Bool.and_eq_true, decide_eq_true_eq]
  omega
theorem textL_all (s : ByteArray) : (textL s).all isB = true := by unfold textL; rw [List.all_append, num16_all, bytesOf_all]; rfl
theorem cellL_all (c : S57) : (cellL c).all isB = true := by
  unfold cellL
  split <;> simp only [List.all_append, textL_all, num16_all] <;> rfl
theorem kidL_all (c : S61) : (kidL c).all isB = true := by unfold kidL; rw [List.all_append, num16_all, textL_all]; rfl
theorem flat_all {α : Type} (f : α → List Int) (hf : ∀ x, (f x).all isB = true) (l : List α) : (l.flatMap f).all isB = true := by
  induction l with
  | nil => rfl
  | cons x l ih => rw [List.flatMap_cons, List.all_append, hf, ih]; rfl
theorem byte_all (v : Int) : isB (v % 256) = true := by
  simp only [isB, Bool.and_eq_true, decide_eq_true_eq]; omega
theorem bodyL_all (kind : Int) (cells : List S57) (kids : List S61) (piece : ByteArray) (next : Int) : (bodyL kind cells kids piece next).all isB = true := by
  unfold bodyL
  rw [List.all_cons, byte_all]
  split
  · rw [List.all_cons, byte_all, flat_all _ cellL_all]; rfl
  · split
    · rw [List.all_cons, byte_all, flat_all _ kidL_all]; rfl
    · split
      · rw [List.all_append, num16_all, textL_all]; rfl
      · rfl
theorem padL_all {l : List Int} (h : l.all isB = true) : (padL l).all isB = true := by
  unfold padL
  rw [List.all_append, h, Bool.true_and, List.all_eq_true]
  intro x hx
  rw [List.eq_of_mem_replicate hx]; rfl
theorem padL_length (l : List Int) (h : l.length ≤ 252) : (padL l).length = 252 := by
  unfold padL
  rw [List.length_append, List.length_replicate]; omega

theorem valOk_len {v : ByteArray} {n m : Int} (h : valOk v n m = true) : v.size ≤ 24 := by
  unfold valOk at h
  simp only [Bool.or_eq_true, Bool.and_eq_true, decide_eq_true_eq] at h
  omega
theorem keyOk_len {v : ByteArray} (h : keyOk v = true) : v.size ≤ 24 := by
  unfold keyOk at h
  simp only [decide_eq_true_eq] at h
  omega
theorem cellL_len {c : S57} (h : keyOk c.f0 = true) (h2 : valOk c.f1 c.f2 c.f3 = true) : (cellL c).length ≤ 53 := by
  have := keyOk_len h
  have := valOk_len h2
  unfold cellL
  split <;> simp only [List.length_append, textL_length, num16_length, List.length_cons, List.length_nil] <;> omega
theorem kidL_len {c : S61} (h : keyOk c.f0 = true) : (kidL c).length ≤ 28 := by
  have := keyOk_len h
  unfold kidL
  simp only [List.length_append, textL_length, num16_length]; omega
theorem cells_len : ∀ (l : List S57) (p : ByteArray), cellsOk p l = true → (l.flatMap cellL).length ≤ 53 * l.length
  | [], _, _ => by simp
  | c :: l, p, h => by
    simp only [cellsOk, Bool.and_eq_true] at h
    have h1 := cells_len l _ h.2
    have h2 := cellL_len h.1.1.1 h.1.2
    rw [List.flatMap_cons, List.length_append, List.length_cons]
    omega
theorem kids_len : ∀ (l : List S61) (p : ByteArray), kidsOk p l = true → (l.flatMap kidL).length ≤ 28 * l.length
  | [], _, _ => by simp
  | c :: l, p, h => by
    simp only [kidsOk, Bool.and_eq_true] at h
    have h1 := kids_len l _ h.2
    have h2 := kidL_len h.1.1.1
    rw [List.flatMap_cons, List.length_append, List.length_cons]
    omega
theorem body_len {kind : Int} {cells : List S57} {kids : List S61} {piece : ByteArray} {next : Int} (h : rightB kind cells kids piece next = true) : (bodyL kind cells kids piece next).length ≤ 252 := by
  unfold rightB at h
  unfold bodyL
  split at h
  · rename_i e
    simp only [Bool.and_eq_true, decide_eq_true_eq] at h
    have := cells_len cells _ h.2
    rw [if_pos e, List.length_cons, List.length_cons]
    omega
  · rename_i e1
    rw [if_neg e1]
    split at h
    · rename_i e
      simp only [Bool.and_eq_true, decide_eq_true_eq] at h
      have := kids_len kids _ h.2
      rw [if_pos e, List.length_cons, List.length_cons]
      omega
    · rename_i e2
      rw [if_neg e2]
      split at h
      · rename_i e
        simp only [Bool.and_eq_true, decide_eq_true_eq] at h
        rw [if_pos e, List.length_cons, List.length_append, textL_length, num16_length]
        omega
      · cases h

theorem shr8 (v : Int) : shr .i64 v 8 = v / 256 := by
  unfold shr
  show v / 2 ^ 8 = v / 256
  rfl
theorem shr0 (v : Int) : shr .i64 v 0 = v := by
  unfold shr
  show v / 2 ^ 0 = v
  omega
theorem put16_f (l : List Int) (v : Int) (hl : l.length ≤ 1000000) (k : Nat) (hk : 3 < k) : fix_Put16.f k l v = some (l ++ num16 v) := by
  obtain ⟨k, rfl⟩ : ∃ m, k = m + 3 := ⟨k - 3, by omega⟩
  unfold fix_Put16.f fix_put.f
  have hw : wrap64 ((l.length : Int) + 2) = (l.length : Int) + 2 := wrap_in (by omega) (by omega)
  have w1 : wrap64 (2 - 1) = 1 := by rw [wrap_in (by omega) (by omega)]; rfl
  have w2 : wrap64 (8 * 1) = 8 := by rw [wrap_in (by omega) (by omega)]; rfl
  have w3 : wrap64 (1 - 1) = 0 := by rw [wrap_in (by omega) (by omega)]; rfl
  have w4 : wrap64 (8 * 0) = 0 := by rw [wrap_in (by omega) (by omega)]; rfl
  have w5 : wrap64 (0 - 1) = -1 := by rw [wrap_in (by omega) (by omega)]; rfl
  rw [hw, w1]
  simp only [fix_put.l0]
  rw [w2, w3, w4, w5, shr8, shr0]
  have g1 : (0 : Int) ≤ (l.length : Int) + 2 := by omega
  have g2 : ((l.length : Int) + 2).toNat ≤ 281474976710656 := by omega
  have g3 : ([] : List Int).length + l.length < 140737488355328 := by simp; omega
  rw [if_pos g1, if_pos g2]
  rw [Option.bind_some, if_pos g3, if_pos (by decide), if_pos (by decide), if_pos (by simp; omega), if_pos (by decide), if_pos (by decide), if_pos (by simp; omega), if_neg (by decide)]
  rw [Option.bind_some]
  simp [num16]
theorem extract_all (s : ByteArray) : s.extract 0 s.size = s := by
  apply bytesOf_inj
  unfold bytesOf
  rw [ByteArray.data_extract, Array.toList_extract]
  simp
  exact List.take_of_length_le (Nat.le_of_eq (by rw [List.length_map, data_length]))
theorem putText_f (l : List Int) (s : ByteArray) (hl : l.length ≤ 1000000) (hs : s.size ≤ 65535) (k : Nat) (hk : 3 < k) : fix_PutText.f k l s = some (l ++ textL s) := by
  unfold fix_PutText.f
  have hm : mn (s.size : Int) 65535 = (s.size : Int) := by unfold mn; rw [if_neg (by omega)]
  rw [hm, if_pos (by omega), if_pos (by omega), Int.toNat_natCast, extract_all, put16_f l _ hl k hk]
  rw [Option.bind_some, if_pos (by rw [List.length_append, num16_length]; omega)]
  unfold textL
  rw [List.append_assoc]
theorem putCell_f (l : List Int) (c : S57) (hl : l.length ≤ 500000) (h0 : c.f0.size ≤ 24) (h1 : c.f1.size ≤ 24) (k : Nat) (hk : 3 < k) : page_putCell.f k l c.f0 c.f1 c.f2 c.f3 = some (l ++ cellL c) := by
  unfold page_putCell.f
  have hx := textL_length c.f0
  rw [putText_f l c.f0 (by omega) (by omega) k hk, Option.bind_some]
  unfold cellL
  by_cases h : c.f3 = 0
  · rw [if_pos h, if_pos (by rw [List.length_append]; omega), putText_f _ c.f1 (by rw [List.length_append, List.length_append]; simp; omega) (by omega) k hk, Option.bind_some, if_pos h]
    simp [List.append_assoc]
  · rw [if_neg h, if_pos (by rw [List.length_append]; omega), put16_f _ _ (by rw [List.length_append, List.length_append]; simp; omega) k hk, Option.bind_some, put16_f _ _ (by simp only [List.length_append, List.length_cons, List.length_nil, num16_length]; omega) k hk, Option.bind_some, if_neg h]
    simp [List.append_assoc]

theorem pad_seal (x : List Int) (hx : x.all isB = true) (hl : x.length ≤ 252) :
    (if 0 ≤ (wrap64 (252 - (x.length : Int))) then (if x.length + (wrap64 (252 - (x.length : Int)) : Int).toNat < 140737488355328 then ((sum_Seal.f (x ++ List.replicate (wrap64 (252 - (x.length : Int)) : Int).toNat 0)).bind fun t185 => (some (t185, (0 : Int)))) else (none)) else (none)) = some (sealL (padL x), 0) := by
  have hw : wrap64 (252 - (x.length : Int)) = 252 - (x.length : Int) := wrap_in (by omega) (by omega)
  have hn : (252 - (x.length : Int)).toNat = 252 - x.length := by omega
  rw [hw, if_pos (by omega), hn, if_pos (by omega)]
  have hp : x ++ List.replicate (252 - x.length) 0 = padL x := rfl
  rw [hp, seal_f (padL_all hx) (by rw [padL_length x hl]; omega), Option.bind_some]

theorem enc_cells (cells : List S57) (hc : cells.length ≤ 4) (d : Nat) : ∀ (k : Nat) (x : List Int) (p : ByteArray) (i : Nat), i ≤ cells.length → cells.length - i = d → d + 4 < k → cellsOk p (cells.drop i) = true →
    x.all isB = true → x.length + ((cells.drop i).flatMap cellL).length ≤ 252 → page_Encode.l0 k x cells (cells.length : Int) (i : Int) = some (sealL (padL (x ++ (cells.drop i).flatMap cellL)), 0) := by
  induction d with
  | zero =>
    intro k x p i hi hd hk ho hx hl
    obtain ⟨k, rfl⟩ : ∃ m, k = m + 1 := ⟨k - 1, by omega⟩
    simp only [page_Encode.l0]
    have hdr : cells.drop i = [] := List.drop_of_length_le (by omega)
    rw [hdr] at hl ⊢
    rw [if_neg (by omega)]
    simp only [List.flatMap_nil, List.append_nil] at hl ⊢
    exact pad_seal x hx hl
  | succ d ih =>
    intro k x p i hi hd hk ho hx hl
    obtain ⟨k, rfl⟩ : ∃ m, k = m + 1 := ⟨k - 1, by omega⟩
    have hia : i < cells.length := by omega
    simp only [page_Encode.l0]
    rw [if_pos (by omega), if_pos (by omega), if_pos (by omega), rd57 hia]
    rw [List.drop_eq_getElem_cons hia] at ho hl ⊢
    simp only [cellsOk, Bool.and_eq_true] at ho
    rw [List.flatMap_cons, List.length_append] at hl
    rw [putCell_f x cells[i] (by omega) (keyOk_len ho.1.1.1) (valOk_len ho.1.2) k (by omega), Option.bind_some, wrap_in (by omega) (by omega), show (i : Int) + 1 = ((i + 1 : Nat) : Int) by omega]
    rw [ih k _ _ (i + 1) (by omega) (by omega) (by omega) ho.2 (by rw [List.all_append, hx, cellL_all]; rfl) (by rw [List.length_append]; omega), List.flatMap_cons, List.append_assoc]
theorem enc_kids (kids : List S61) (hc : kids.length ≤ 6) (d : Nat) : ∀ (k : Nat) (x : List Int) (p : ByteArray) (i : Nat), i ≤ kids.length → kids.length - i = d → d + 4 < k → kidsOk p (kids.drop i) = true →
    x.all isB = true → x.length + ((kids.drop i).flatMap kidL).length ≤ 252 → page_Encode.l1 k x kids (kids.length : Int) (i : Int) = some (sealL (padL (x ++ (kids.drop i).flatMap kidL)), 0) := by
  induction d with
  | zero =>
    intro k x p i hi hd hk ho hx hl
    obtain ⟨k, rfl⟩ : ∃ m, k = m + 1 := ⟨k - 1, by omega⟩
    simp only [page_Encode.l1]
    have hdr : kids.drop i = [] := List.drop_of_length_le (by omega)
    rw [hdr] at hl ⊢
    rw [if_neg (by omega)]
    simp only [List.flatMap_nil, List.append_nil] at hl ⊢
    exact pad_seal x hx hl
  | succ d ih =>
    intro k x p i hi hd hk ho hx hl
    obtain ⟨k, rfl⟩ : ∃ m, k = m + 1 := ⟨k - 1, by omega⟩
    have hia : i < kids.length := by omega
    simp only [page_Encode.l1]
    rw [if_pos (by omega), if_pos (by omega), if_pos (by omega), rd61 hia]
    rw [List.drop_eq_getElem_cons hia] at ho hl ⊢
    simp only [kidsOk, Bool.and_eq_true] at ho
    rw [List.flatMap_cons, List.length_append] at hl
    have hkl := keyOk_len ho.1.1.1
    have htl := textL_length kids[i].f0
    rw [putText_f x _ (by omega) (by omega) k (by omega), Option.bind_some, put16_f _ _ (by rw [List.length_append]; omega) k (by omega), Option.bind_some, wrap_in (by omega) (by omega), show (i : Int) + 1 = ((i + 1 : Nat) : Int) by omega]
    have hkk : x ++ textL kids[i].f0 ++ num16 kids[i].f1 = x ++ kidL kids[i] := by unfold kidL; rw [List.append_assoc]
    rw [hkk, ih k _ _ (i + 1) (by omega) (by omega) (by omega) ho.2 (by rw [List.all_append, hx, kidL_all]; rfl) (by rw [List.length_append]; omega), List.flatMap_cons, List.append_assoc]

theorem encode_f (kind : Int) (cells : List S57) (kids : List S61) (piece : ByteArray) (next : Int) (hc : cells.length ≤ 1000000) (hd : kids.length ≤ 1000000) (k : Nat) (hk : cells.length + kids.length + 20 < k) :
    page_Encode.f k kind cells kids piece next = some (if rightB kind cells kids piece next = true then (encL kind cells kids piece next, 0) else ([], 1)) := by
  unfold page_Encode.f
  rw [right_f kind cells kids piece next hc hd k (by omega), Option.bind_some]
  by_cases h : rightB kind cells kids piece next = true
  · rw [if_pos h, if_pos h, Option.bind_some]
    have hlen := body_len h
    have hall := bodyL_all kind cells kids piece next
    unfold encL
    unfold rightB at h
    unfold bodyL at hlen hall ⊢
    by_cases h1 : kind = 1
    · rw [if_pos h1] at h hlen hall ⊢
      simp only [Bool.and_eq_true, decide_eq_true_eq] at h
      rw [if_pos h1, if_pos (by simp)]
      have := enc_cells cells h.1.2 cells.length k ([kind % 256] ++ [(cells.length : Int) % 256]) e0 0 (by omega) (by omega) (by omega) h.2
        (by rw [List.all_append, List.all_cons, List.all_cons, byte_all, byte_all]; rfl) (by simp only [List.length_append, List.length_cons, List.length_nil, List.drop_zero] at hlen ⊢; omega)
      rw [List.drop_zero] at this
      exact this
    · rw [if_neg h1] at h hlen hall ⊢
      rw [if_neg h1]
      by_cases h2 : kind = 2
      · rw [if_pos h2] at h hlen hall ⊢
        simp only [Bool.and_eq_true, decide_eq_true_eq] at h
        rw [if_pos h2, if_pos (by simp)]
        have := enc_kids kids h.1.2.2 kids.length k ([kind % 256] ++ [(kids.length : Int) % 256]) e0 0 (by omega) (by omega) (by omega) h.2
          (by rw [List.all_append, List.all_cons, List.all_cons, byte_all, byte_all]; rfl) (by simp only [List.length_append, List.length_cons, List.length_nil, List.drop_zero] at hlen ⊢; omega)
        rw [List.drop_zero] at this
        exact this
      · rw [if_neg h2] at h hlen hall ⊢
        rw [if_neg h2]
        by_cases h3 : kind = 3
        · rw [if_pos h3] at h hlen hall ⊢
          simp only [Bool.and_eq_true, decide_eq_true_eq] at h
          have htl := textL_length piece
          rw [if_pos h3, putText_f _ _ (by simp) (by omega) k (by omega), Option.bind_some, put16_f _ _ (by rw [List.length_append]; simp; omega) k (by omega), Option.bind_some]
          have he : [kind % 256] ++ textL piece ++ num16 next = kind % 256 :: (textL piece ++ num16 next) := by simp
          rw [he]
          exact pad_seal _ hall hlen
        · rw [if_neg h3] at h
          cases h
  · rw [if_neg h, if_neg h]
theorem numOk_num {m : Int} (h : numOk m = true) : 0 ≤ m ∧ m ≤ 511 := by
  unfold numOk at h
  simp only [decide_eq_true_eq] at h
  omega

theorem nx_nat (i : Nat) (h : i ≤ 1000000) : wrap64 ((i : Int) + 1) = ((i + 1 : Nat) : Int) := by rw [wrap_in (by omega) (by omega)]; omega
end Go.Proofs.Ytgbcfkcnoncgdaa.Pure
