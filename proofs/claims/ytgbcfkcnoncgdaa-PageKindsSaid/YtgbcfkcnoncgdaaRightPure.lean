/- Which pages can be: the program's answer and the document's, as one plain function. -/
import Derived.Test.YtgbcfkcnoncgdaaSealPure
namespace Go.Proofs.Ytgbcfkcnoncgdaa.Pure
open Go.Proofs.Ytgbcfkcnoncgdaa.Hand
open Go.RowKit Go.Proofs.Ytgbcfkcnoncgdaa.Sp Go.Proofs.YtgbcfkcnoncgdaaW.PrintWords Go.Proofs.YtgbcfkcnoncgdaaW.PrintLast

def keyOk (s : ByteArray) : Bool := decide (0 < s.size ∧ s.size ≤ 24)
def numOk (n : Int) : Bool := decide (2 ≤ n ∧ n ≤ 511)
def less (a b : ByteArray) : Bool := Op.bytesLess a.toList b.toList
def valOk (v : ByteArray) (n m : Int) : Bool := (decide (n = 0 ∧ m = 0) && decide (v.size ≤ 24)) || (decide (v.size = 0) && decide (25 ≤ n ∧ n ≤ 400) && numOk m)

def cellsOk : ByteArray → List S57 → Bool
  | _, [] => true
  | p, c :: r => keyOk c.f0 && less p c.f0 && valOk c.f1 c.f2 c.f3 && cellsOk c.f0 r
def kidsOk : ByteArray → List S61 → Bool
  | _, [] => true
  | p, c :: r => keyOk c.f0 && less p c.f0 && numOk c.f1 && kidsOk c.f0 r
def e0 : ByteArray := ⟨#[]⟩
def rightB (kind : Int) (cells : List S57) (kids : List S61) (piece : ByteArray) (next : Int) : Bool :=
  if kind = 1 then decide (piece.size = 0) && decide (next = 0) && decide (kids.length = 0) && decide (cells.length ≤ 4) && cellsOk e0 cells
  else if kind = 2 then decide (piece.size = 0) && decide (next = 0) && decide (cells.length = 0) && decide (2 ≤ kids.length ∧ kids.length ≤ 6) && kidsOk e0 kids
  else if kind = 3 then decide (cells.length = 0) && decide (kids.length = 0) && decide (1 ≤ piece.size ∧ piece.size ≤ 240) && (decide (next = 0) || numOk next)
  else false

theorem nil_iff (s : ByteArray) : s.toList = [] ↔ s.size = 0 := by
  rw [ByteArray.toList_eq, ← data_length, List.length_eq_zero_iff]
theorem less_e0 (s : ByteArray) (h : keyOk s = true) : less e0 s = true := by
  unfold keyOk at h
  rw [decide_eq_true_eq] at h
  unfold less
  have : s.toList ≠ [] := fun e => by have := (nil_iff s).1 e; omega
  rw [show e0.toList = [] from (nil_iff e0).2 rfl]
  match hs : s.toList with
  | [] => exact absurd hs this
  | x :: l => rfl

theorem number_f (n : Int) : page_number.f n = some (numOk n) := by
  unfold page_number.f numOk
  by_cases h : n ≥ 2
  · rw [if_pos h]; congr 1; rw [decide_eq_decide]; omega
  · rw [if_neg h]; congr 1; symm; rw [decide_eq_false_iff_not]; omega
theorem refNumber_f (n : Int) : sapwoodref04_Number.f n = some (numOk n) := by
  unfold sapwoodref04_Number.f numOk
  by_cases h : n ≥ 2
  · rw [if_pos h]; congr 1; rw [decide_eq_decide]; omega
  · rw [if_neg h]; congr 1; symm; rw [decide_eq_false_iff_not]; omega
theorem key_f (s : ByteArray) : ∃ m, pair_Key.f s = some m ∧ (m = 0 ↔ keyOk s = true) := by
  unfold pair_Key.f keyOk
  by_cases h : s.toList = []
  · refine ⟨1, by rw [if_pos h], ?_⟩
    have := (nil_iff s).1 h
    rw [decide_eq_true_eq]; omega
  · have h0 : s.size ≠ 0 := fun e => h ((nil_iff s).2 e)
    by_cases h2 : (s.size : Int) > 24
    · refine ⟨4, by rw [if_neg h, if_pos h2], ?_⟩
      rw [decide_eq_true_eq]; omega
    · refine ⟨0, by rw [if_neg h, if_neg h2], ?_⟩
      rw [decide_eq_true_eq]; omega
theorem refKey_f (s : ByteArray) : ∃ m, sapwoodref03_Key.f s = some m ∧ (m = 0 ↔ keyOk s = true) := key_f s

theorem cell_f (a v : ByteArray) (n m : Int) : page_cell.f a v n m = some (valOk v n m) := by
  unfold page_cell.f valOk
  have hv := nil_iff v
  rw [number_f]
  simp only [Option.bind_some]
  by_cases h1 : n = 0 <;> by_cases h2 : m = 0 <;> by_cases h3 : v.toList = [] <;> by_cases h4 : n > 24 <;> by_cases h5 : n ≤ 400 <;> by_cases h6 : v.size ≤ 24 <;>
    simp only [h1, h2, h3, h4, h5, if_true, if_false] <;> simp only [h3, true_iff, false_iff] at hv <;> simp_all [numOk] <;> omega

theorem rd57 {l : List S57} {i : Nat} (h : i < l.length) : rd_T57 l (i : Int) = l[i] := by unfold rd_T57; simp [h]
theorem rd61 {l : List S61} {i : Nat} (h : i < l.length) : rd_T61 l (i : Int) = l[i] := by unfold rd_T61; simp [h]
theorem rd64 {l : List S64} {i : Nat} (h : i < l.length) : rd_T64 l (i : Int) = l[i] := by unfold rd_T64; simp [h]
theorem rd65 {l : List S65} {i : Nat} (h : i < l.length) : rd_T65 l (i : Int) = l[i] := by unfold rd_T65; simp [h]

theorem cells_loop (l : List S57) (hl : l.length ≤ 1000000) (d : Nat) : ∀ (k : Nat) (p : ByteArray) (i : Nat), i ≤ l.length → l.length - i = d → d < k →
    page_cells.l0 k l p l (l.length : Int) (i : Int) = some (cellsOk p (l.drop i) && decide (l.length ≤ 4)) := by
  induction d with
  | zero =>
    intro k p i hi hd hk
    obtain ⟨k, rfl⟩ : ∃ m, k = m + 1 := ⟨k - 1, by omega⟩
    simp only [page_cells.l0]
    rw [if_neg (by omega), List.drop_of_length_le (by omega)]
    simp only [cellsOk, Bool.true_and]
    congr 1; rw [decide_eq_decide]; omega
  | succ d ih =>
    intro k p i hi hd hk
    obtain ⟨k, rfl⟩ : ∃ m, k = m + 1 := ⟨k - 1, by omega⟩
    have hia : i < l.length := by omega
    simp only [page_cells.l0]
    rw [if_pos (by omega), if_pos (by omega), if_pos (by omega), rd57 hia, List.drop_eq_getElem_cons hia]
    obtain ⟨m, hm, hm2⟩ := key_f l[i].f0
    rw [hm, cell_f]
    simp only [Option.bind_some, cellsOk]
    have hlt : (Op.bytesLess p.toList l[i].f0.toList = true) ↔ less p l[i].f0 = true := Iff.rfl
    by_cases h1 : m = 0
    · rw [if_pos h1, hm2.1 h1]
      by_cases h2 : less p l[i].f0 = true
      · rw [if_pos (hlt.2 h2), h2]
        by_cases h3 : valOk l[i].f1 l[i].f2 l[i].f3 = true
        · rw [if_pos h3, h3, wrap_in (by omega) (by omega), show (i : Int) + 1 = ((i + 1 : Nat) : Int) by omega, ih k _ (i + 1) (by omega) (by omega) (by omega)]
          simp
        · rw [if_neg h3, Bool.eq_false_iff.2 h3]; simp
      · rw [if_neg (fun h => h2 (hlt.1 h)), Bool.eq_false_iff.2 h2]; simp
    · have : keyOk l[i].f0 = false := by
        rw [← Bool.not_eq_true]; exact fun h => h1 (hm2.2 h)
      rw [if_neg h1, this]; simp
theorem cells_f (l : List S57) (hl : l.length ≤ 1000000) (k : Nat) (hk : l.length < k) : page_cells.f k l = some (cellsOk e0 l && decide (l.length ≤ 4)) := by
  have := cells_loop l hl l.length k e0 0 (by omega) (by omega) hk
  simpa [page_cells.f, e0] using this

theorem kids_loop (l : List S61) (hl : l.length ≤ 1000000) (d : Nat) : ∀ (k : Nat) (p : ByteArray) (i : Nat), i ≤ l.length → l.length - i = d → d < k →
    page_kids.l0 k l p l (l.length : Int) (i : Int) = some (kidsOk p (l.drop i) && decide (2 ≤ l.length ∧ l.length ≤ 6)) := by
  induction d with
  | zero =>
    intro k p i hi hd hk
    obtain ⟨k, rfl⟩ : ∃ m, k = m + 1 := ⟨k - 1, by omega⟩
    simp only [page_kids.l0]
    rw [if_neg (by omega), List.drop_of_length_le (by omega)]
    simp only [kidsOk, Bool.true_and]
    by_cases h : (l.length : Int) ≥ 2
    · rw [if_pos h]; congr 1; rw [decide_eq_decide]; omega
    · rw [if_neg h]; congr 1; symm; rw [decide_eq_false_iff_not]; omega
  | succ d ih =>
    intro k p i hi hd hk
    obtain ⟨k, rfl⟩ : ∃ m, k = m + 1 := ⟨k - 1, by omega⟩
    have hia : i < l.length := by omega
    simp only [page_kids.l0]
    rw [if_pos (by omega), if_pos (by omega), if_pos (by omega), rd61 hia, List.drop_eq_getElem_cons hia]
    obtain ⟨m, hm, hm2⟩ := key_f l[i].f0
    rw [hm, number_f]
    simp only [Option.bind_some, kidsOk]
    have hlt : (Op.bytesLess p.toList l[i].f0.toList = true) ↔ less p l[i].f0 = true := Iff.rfl
    by_cases h1 : m = 0
    · rw [if_pos h1, hm2.1 h1]
      by_cases h2 : less p l[i].f0 = true
      · rw [if_pos (hlt.2 h2), h2]
        by_cases h3 : numOk l[i].f1 = true
        · rw [if_pos h3, h3, wrap_in (by omega) (by omega), show (i : Int) + 1 = ((i + 1 : Nat) : Int) by omega, ih k _ (i + 1) (by omega) (by omega) (by omega)]
          simp
        · rw [if_neg h3, Bool.eq_false_iff.2 h3]; simp
      · rw [if_neg (fun h => h2 (hlt.1 h)), Bool.eq_false_iff.2 h2]; simp
    · have : keyOk l[i].f0 = false := by
        rw [← Bool.not_eq_true]; exact fun h => h1 (hm2.2 h)
      rw [if_neg h1, this]; simp
theorem kids_f (l : List S61) (hl : l.length ≤ 1000000) (k : Nat) (hk : l.length < k) : page_kids.f k l = some (kidsOk e0 l && decide (2 ≤ l.length ∧ l.length ≤ 6)) := by
  have := kids_loop l hl l.length k e0 0 (by omega) (by omega) hk
  simpa [page_kids.f, e0] using this

theorem right_f (kind : Int) (cells : List S57) (kids : List S61) (piece : ByteArray) (next : Int) (hc : cells.length ≤ 1000000) (hd : kids.length ≤ 1000000) (k : Nat) (hk : cells.length + kids.length + 2 < k) :
    page_Right.f k kind cells kids piece next = some (rightB kind cells kids piece next) := by
  obtain ⟨k, rfl⟩ : ∃ m, k = m + 1 := ⟨k - 1, by omega⟩
  have hv := nil_iff piece
  unfold page_Right.f rightB
  simp only [page_Right.j0]
  rw [cells_f cells hc k (by omega), kids_f kids hd k (by omega), number_f, wrap_in (by omega) (by omega)]
  simp only [Option.bind_some]
  generalize cellsOk e0 cells = C
  generalize kidsOk e0 kids = D
  simp only [hv]
  clear hv hc hd hk
  generalize numOk next = N
  generalize piece.size = z
  generalize cells.length = a
  generalize kids.length = b
  have h00 : ((a : Int) + (b : Int) = 0) ↔ (a = 0 ∧ b = 0) := by omega
  have ha : ((a : Int) = 0) ↔ a = 0 := by omega
  have hb : ((b : Int) = 0) ↔ b = 0 := by omega
  have hz : ((z : Int) ≤ 240) ↔ z ≤ 240 := by omega
  simp only [h00, ha, hb, hz]
  clear h00 ha hb hz
  by_cases h1 : kind = 1
  · subst h1
    by_cases h3 : z = 0 <;> by_cases h4 : next = 0 <;> by_cases h5 : b = 0 <;> by_cases h6 : a ≤ 4 <;> cases C <;> simp [h3, h4, h5, h6]
  · by_cases h2 : kind = 2
    · subst h2
      by_cases h3 : z = 0 <;> by_cases h4 : next = 0 <;> by_cases h5 : a = 0 <;> cases D <;> simp [h3, h4, h5]
    · by_cases h2' : kind = 3
      · subst h2'
        by_cases h3 : z = 0
        · by_cases h4 : next = 0 <;> by_cases h5 : a = 0 <;> by_cases h6 : b = 0 <;> simp [h3, h4, h5, h6]
        · have h8 : 1 ≤ z := by omega
          by_cases h4 : next = 0 <;> by_cases h5 : a = 0 <;> by_cases h6 : b = 0 <;> by_cases h7 : z ≤ 240 <;> simp [h3, h4, h5, h6, h7, h8]
      · by_cases h3 : z = 0 <;> simp [h1, h2, h2', h3]
end Go.Proofs.Ytgbcfkcnoncgdaa.Pure
