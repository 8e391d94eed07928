/- The document's answer to which pages can be: the same plain function. -/
import Derived.Test.YtgbcfkcnoncgdaaRightPure
namespace Go.Proofs.Ytgbcfkcnoncgdaa.Pure
open Go.Proofs.Ytgbcfkcnoncgdaa.Hand
open Go.RowKit Go.Proofs.Ytgbcfkcnoncgdaa.Sp Go.Proofs.YtgbcfkcnoncgdaaW.PrintWords Go.Proofs.YtgbcfkcnoncgdaaW.PrintLast

def cv (c : S64) : S57 := ⟨c.f0, c.f1, c.f2, c.f3⟩
def cw (c : S65) : S61 := ⟨c.f0, c.f1⟩

theorem refCells_j (k : Nat) (l : List S64) (n i : Int) (x : Bool) (a v : ByteArray) (s t : Int) :
    sapwoodref04_cells.j1 (k + 1) l n i x a v s t = if x = true then some false else if valOk v s t = true then sapwoodref04_cells.l0 k l n (wrap64 (i + 1)) else some false := by
  have hv := nil_iff v
  simp only [sapwoodref04_cells.j1]
  rw [refNumber_f]
  simp only [Option.bind_some, hv]
  generalize sapwoodref04_cells.l0 k l n (wrap64 (i + 1)) = R
  unfold valOk
  clear hv
  have hN : numOk t = true → t ≠ 0 := fun h e => by rw [e] at h; simp [numOk] at h
  have hz : ((v.size : Int) ≤ 24) ↔ v.size ≤ 24 := by omega
  have hs : (s ≥ 25) ↔ 25 ≤ s := Iff.rfl
  simp only [hz, hs]
  clear hz hs
  generalize v.size = z
  cases x
  · generalize numOk t = N at hN
    by_cases h3 : z = 0
    · subst h3
      by_cases h1 : s = 0
      · subst h1; by_cases h2 : t = 0 <;> simp [h2]
      · by_cases h5 : 25 ≤ s <;> by_cases h6 : s ≤ 400 <;> cases N <;> simp [h1, h5, h6]
    · by_cases h4 : z ≤ 24
      · by_cases h1 : s = 0
        · subst h1; by_cases h2 : t = 0 <;> simp [h2, h3, h4]
        · simp [h1, h3, h4]
      · simp [h3, h4]
  · simp

theorem getElem_pos_map {l : List S64} {i : Nat} (h : i < l.length) : (l.map cv).drop i = cv l[i] :: (l.map cv).drop (i + 1) := by
  rw [List.drop_eq_getElem_cons (by simpa using h)]; simp
theorem getElem_pos_map' {l : List S65} {i : Nat} (h : i < l.length) : (l.map cw).drop i = cw l[i] :: (l.map cw).drop (i + 1) := by
  rw [List.drop_eq_getElem_cons (by simpa using h)]; simp

theorem refCells_loop (l : List S64) (hl : l.length ≤ 1000000) (d : Nat) : ∀ (k : Nat) (p : ByteArray) (i : Nat), i ≤ l.length → l.length - i = d → 2 * d < k → (i = 0 ∧ p = e0 ∨ ∃ h : 0 < i ∧ i - 1 < l.length, p = (l[i - 1]'h.2).f0) →
    sapwoodref04_cells.l0 k l (l.length : Int) (i : Int) = some (cellsOk p ((l.map cv).drop i)) := by
  induction d with
  | zero =>
    intro k p i hi hd hk hp
    obtain ⟨k, rfl⟩ : ∃ m, k = m + 1 := ⟨k - 1, by omega⟩
    simp only [sapwoodref04_cells.l0]
    rw [if_neg (by omega), List.drop_of_length_le (by simp; omega)]
    rfl
  | succ d ih =>
    intro k p i hi hd hk hp
    obtain ⟨k, rfl⟩ : ∃ m, k = m + 2 := ⟨k - 2, by omega⟩
    have hia : i < l.length := by omega
    have ih' := ih k l[i].f0 (i + 1) (by omega) (by omega) (by omega) (Or.inr ⟨⟨by omega, by simpa using hia⟩, by simp⟩)
    simp only [sapwoodref04_cells.l0, refCells_j]
    rw [if_pos (by omega), if_pos (by omega), if_pos (by omega), rd64 hia, getElem_pos_map hia]
    obtain ⟨m, hm, hm2⟩ := refKey_f l[i].f0
    have hnx : wrap64 ((i : Int) + 1) = ((i + 1 : Nat) : Int) := by rw [wrap_in (by omega) (by omega)]; omega
    rw [hm, hnx, ih']
    simp only [Option.bind_some, cellsOk]
    show _ = some (keyOk l[i].f0 && less p l[i].f0 && valOk l[i].f1 l[i].f2 l[i].f3 && cellsOk l[i].f0 ((l.map cv).drop (i + 1)))
    generalize cellsOk l[i].f0 ((l.map cv).drop (i + 1)) = C
    by_cases h1 : m = 0
    · have hk1 := hm2.1 h1
      rw [if_pos h1, hk1]
      rcases hp with ⟨h0, rfl⟩ | ⟨h0, rfl⟩
      · rw [if_neg (by omega), less_e0 _ hk1]
        by_cases h3 : valOk l[i].f1 l[i].f2 l[i].f3 = true
        · simp [h3]
        · simp [h3]
      · have hpr : wrap64 ((i : Int) - 1) = ((i - 1 : Nat) : Int) := by rw [wrap_in (by omega) (by omega)]; omega
        rw [hpr, if_pos (by omega), if_pos (by omega), if_pos (by omega), rd64 h0.2]
        show (if (!(less (l[i - 1]'h0.2).f0 l[i].f0)) = true then _ else _) = _
        generalize less (l[i - 1]'h0.2).f0 l[i].f0 = L
        by_cases h3 : valOk l[i].f1 l[i].f2 l[i].f3 = true
        · cases L <;> simp [h3]
        · cases L <;> simp [h3]
    · have : keyOk l[i].f0 = false := by
        rw [← Bool.not_eq_true]; exact fun h => h1 (hm2.2 h)
      rw [if_neg h1, this]; simp
theorem refCells_f (l : List S64) (hl : l.length ≤ 1000000) (k : Nat) (hk : 2 * l.length < k) : sapwoodref04_cells.f k l = some (decide (l.length ≤ 4) && cellsOk e0 (l.map cv)) := by
  have := refCells_loop l hl l.length k e0 0 (by omega) (by omega) hk (Or.inl ⟨rfl, rfl⟩)
  unfold sapwoodref04_cells.f
  by_cases h : l.length ≤ 4
  · rw [if_neg (by omega)]; simpa [h] using this
  · rw [if_pos (by omega)]; simp [h]

theorem refKids_loop (l : List S65) (hl : l.length ≤ 1000000) (d : Nat) : ∀ (k : Nat) (p : ByteArray) (i : Nat), i ≤ l.length → l.length - i = d → d < k → (i = 0 ∧ p = e0 ∨ ∃ h : 0 < i ∧ i - 1 < l.length, p = (l[i - 1]'h.2).f0) →
    sapwoodref04_kids.l0 k l (l.length : Int) (i : Int) = some (kidsOk p ((l.map cw).drop i)) := by
  induction d with
  | zero =>
    intro k p i hi hd hk hp
    obtain ⟨k, rfl⟩ : ∃ m, k = m + 1 := ⟨k - 1, by omega⟩
    simp only [sapwoodref04_kids.l0]
    rw [if_neg (by omega), List.drop_of_length_le (by simp; omega)]
    rfl
  | succ d ih =>
    intro k p i hi hd hk hp
    obtain ⟨k, rfl⟩ : ∃ m, k = m + 1 := ⟨k - 1, by omega⟩
    have hia : i < l.length := by omega
    have ih' := ih k l[i].f0 (i + 1) (by omega) (by omega) (by omega) (Or.inr ⟨⟨by omega, by simpa using hia⟩, by simp⟩)
    simp only [sapwoodref04_kids.l0]
    rw [if_pos (by omega), if_pos (by omega), if_pos (by omega), rd65 hia, getElem_pos_map' hia]
    obtain ⟨m, hm, hm2⟩ := refKey_f l[i].f0
    have hnx : wrap64 ((i : Int) + 1) = ((i + 1 : Nat) : Int) := by rw [wrap_in (by omega) (by omega)]; omega
    rw [hm, hnx, ih', refNumber_f]
    simp only [Option.bind_some, kidsOk]
    show _ = some (keyOk l[i].f0 && less p l[i].f0 && numOk l[i].f1 && kidsOk l[i].f0 ((l.map cw).drop (i + 1)))
    generalize kidsOk l[i].f0 ((l.map cw).drop (i + 1)) = C
    by_cases h1 : m = 0
    · have hk1 := hm2.1 h1
      rw [if_pos h1, hk1]
      rcases hp with ⟨h0, rfl⟩ | ⟨h0, rfl⟩
      · rw [if_neg (by omega), less_e0 _ hk1]
        by_cases h3 : numOk l[i].f1 = true
        · simp [h3]
        · simp [h3]
      · have hpr : wrap64 ((i : Int) - 1) = ((i - 1 : Nat) : Int) := by rw [wrap_in (by omega) (by omega)]; omega
        rw [hpr, if_pos (by omega), if_pos (by omega), if_pos (by omega), rd65 h0.2]
        show (if less (l[i - 1]'h0.2).f0 l[i].f0 = true then _ else _) = _
        generalize less (l[i - 1]'h0.2).f0 l[i].f0 = L
        by_cases h3 : numOk l[i].f1 = true
        · cases L <;> simp [h3]
        · cases L <;> simp [h3]
    · have : keyOk l[i].f0 = false := by
        rw [← Bool.not_eq_true]; exact fun h => h1 (hm2.2 h)
      rw [if_neg h1, this]; simp
theorem refKids_f (l : List S65) (hl : l.length ≤ 1000000) (k : Nat) (hk : l.length + 1 < k) : sapwoodref04_kids.f k l = some (decide (2 ≤ l.length ∧ l.length ≤ 6) && kidsOk e0 (l.map cw)) := by
  obtain ⟨k, rfl⟩ : ∃ m, k = m + 1 := ⟨k - 1, by omega⟩
  have := refKids_loop l hl l.length k e0 0 (by omega) (by omega) (by omega) (Or.inl ⟨rfl, rfl⟩)
  unfold sapwoodref04_kids.f
  simp only [sapwoodref04_kids.j0]
  have h0 : ((0 : Nat) : Int) = 0 := rfl
  rw [h0] at this
  rw [this, List.drop_zero]
  by_cases h : l.length < 2
  · rw [if_pos (by omega)]
    have : ¬ (2 ≤ l.length ∧ l.length ≤ 6) := by omega
    simp [this]
  · rw [if_neg (by omega)]
    by_cases h6 : l.length ≤ 6
    · have h1 : (2 ≤ l.length ∧ l.length ≤ 6) := by omega
      have h2 : ¬ ((l.length : Int) > 6) := by omega
      simp [h1, h2]
    · have h1 : ¬ (2 ≤ l.length ∧ l.length ≤ 6) := by omega
      have h2 : ((l.length : Int) > 6) := by omega
      simp [h1, h2]

theorem refRight_f (kind : Int) (cells : List S64) (kids : List S65) (piece : ByteArray) (next : Int) (hc : cells.length ≤ 1000000) (hd : kids.length ≤ 1000000) (k : Nat) (hk : 2 * cells.length + kids.length + 3 < k) :
    sapwoodref04_Right.f k kind cells kids piece next = some (rightB kind (cells.map cv) (kids.map cw) piece next) := by
  obtain ⟨k, rfl⟩ : ∃ m, k = m + 1 := ⟨k - 1, by omega⟩
  have hv := nil_iff piece
  unfold sapwoodref04_Right.f rightB
  simp only [sapwoodref04_Right.j0]
  rw [refCells_f cells hc k (by omega), refKids_f kids hd k (by omega), refNumber_f]
  simp only [Option.bind_some, List.length_map]
  generalize cellsOk e0 _ = C
  generalize kidsOk e0 _ = D
  simp only [hv]
  clear hv hc hd hk
  generalize numOk next = N
  generalize piece.size = z
  generalize cells.length = a
  generalize kids.length = b
  have ha : ((a : Int) == 0) = decide (a = 0) := by
    rw [Bool.eq_iff_iff, beq_iff_eq, decide_eq_true_eq]; omega
  have hb : ((b : Int) == 0) = decide (b = 0) := by
    rw [Bool.eq_iff_iff, beq_iff_eq, decide_eq_true_eq]; omega
  have hz : ((z : Int) ≤ 240) ↔ z ≤ 240 := by omega
  have hy : ((z : Int) ≥ 1) ↔ 1 ≤ z := by omega
  simp only [ha, hb, hz, hy]
  clear ha hb hz hy
  by_cases h1 : kind = 1
  · subst h1
    by_cases h3 : z = 0 <;> by_cases h4 : next = 0 <;> by_cases h5 : b = 0 <;> by_cases h6 : a ≤ 4 <;> cases C <;> simp [h3, h4, h5, h6]
  · by_cases h2 : kind = 2
    · subst h2
      by_cases h3 : z = 0 <;> by_cases h4 : next = 0 <;> by_cases h5 : a = 0 <;> cases D <;> simp [h3, h4, h5]
    · by_cases h2' : kind = 3
      · subst h2'
        by_cases h3 : z = 0
        · by_cases h4 : next = 0 <;> by_cases h5 : a = 0 <;> by_cases h6 : b = 0 <;> simp [h3, h4, h5, h6]
        · have h8 : 1 ≤ z := by omega
          by_cases h4 : next = 0 <;> by_cases h5 : a = 0 <;> by_cases h6 : b = 0 <;> by_cases h7 : z ≤ 240 <;> simp [h3, h4, h5, h6, h7, h8]
      · by_cases h3 : z = 0 <;> simp [h1, h2, h2', h3]
end Go.Proofs.Ytgbcfkcnoncgdaa.Pure
