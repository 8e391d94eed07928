/- The ledger in memory: its block, what a store of many cells turns. -/
import Derived.Test.YtaphooibfgnkkaaProg
import Derived.Test.YtaphooibfgnkkaaWMore
import Derived.WalkKit
import Derived.Deep.MidRow
import Derived.Lib.Hide
import Derived.Outline
import Derived.IntWalk
import Derived.Deep.DeepFit
namespace Go.Proofs.Ytaphooibfgnkkaa.Hand
open Go.RowKit Go.Proofs.YtaphooibfgnkkaaW.PrintWords Go.Proofs.YtaphooibfgnkkaaW.PrintLast Go.Proofs.YtaphooibfgnkkaaW.PrintMore
set_option linter.unusedVariables false
set_option linter.unusedSimpArgs false

abbrev Marks := Nat → Bool
def none_ : Marks := fun _ => false
def put_ (m : Marks) (i : Nat) : Marks := fun j => if j = i then true else m j
/-- A ledger's cells. -/
structure Cells (C : Array Value) (n : Int) (O N T : Marks) : Prop where
  size : C.size = 1537
  pages : C[0]? = some (.int .i64 n)
  older : ∀ j, j < 512 → C[1 + j]? = some (.bool (O j))
  newer : ∀ j, j < 512 → C[513 + j]? = some (.bool (N j))
  taken : ∀ j, j < 512 → C[1025 + j]? = some (.bool (T j))
/-- A ledger at block g. -/
structure Lg (w : World) (g : Nat) (n : Nat) (O N T : Marks) : Prop where
  blk : ∃ C, w.heap[g]? = some (.cells C 51 (0, 0)) ∧ Cells C (n : Int) O N T
  le : n ≤ 512
theorem Lg.lt {w : World} {g n : Nat} {O N T : Marks} (h : Lg w g n O N T) : g < w.heap.size := by
  obtain ⟨C, h1, _⟩ := h.blk
  exact blk_lt h1
theorem Lg.below {w w' : World} {g n : Nat} {O N T : Marks} (h : Lg w g n O N T) (hb : Below w.heap.size w w') : Lg w' g n O N T := by
  obtain ⟨⟨C, h1, h2⟩, h3⟩ := h
  exact ⟨⟨C, blk_below h1 hb, h2⟩, h3⟩
theorem Lg.c0 {w : World} {g n : Nat} {O N T : Marks} (h : Lg w g n O N T) : w.cell? ⟨g, 0, none⟩ = some (.int .i64 (n : Int)) := by
  obtain ⟨⟨C, h1, h2⟩, _⟩ := h
  rw [blk_cell h1]; exact h2.pages
theorem Lg.cO {w : World} {g n : Nat} {O N T : Marks} (h : Lg w g n O N T) (j : Nat) (hj : j < 512) : w.cell? ⟨g, 1 + j, none⟩ = some (.bool (O j)) := by
  obtain ⟨⟨C, h1, h2⟩, _⟩ := h
  rw [blk_cell h1]; exact h2.older j hj
theorem Lg.cN {w : World} {g n : Nat} {O N T : Marks} (h : Lg w g n O N T) (j : Nat) (hj : j < 512) : w.cell? ⟨g, 513 + j, none⟩ = some (.bool (N j)) := by
  obtain ⟨⟨C, h1, h2⟩, _⟩ := h
  rw [blk_cell h1]; exact h2.newer j hj
theorem Lg.cT {w : World} {g n : Nat} {O N T : Marks} (h : Lg w g n O N T) (j : Nat) (hj : j < 512) : w.cell? ⟨g, 1025 + j, none⟩ = some (.bool (T j)) := by
  obtain ⟨⟨C, h1, h2⟩, _⟩ := h
  rw [blk_cell h1]; exact h2.taken j hj
theorem Lg.fr {w : World} {g n : Nat} {O N T : Marks} (h : Lg w g n O N T) (j : Nat) : w.frozen? ⟨g, j, none⟩ = false := by
  obtain ⟨⟨C, h1, h2⟩, _⟩ := h
  exact blk_frozen h1 j
/-- All but block g is as it was. -/
structure Only (w w' : World) (g : Nat) : Prop where
  os : w'.os = w.os
  tape : w'.tape = w.tape
  output : w'.output = w.output
  size : w.heap.size ≤ w'.heap.size
  block : ∀ k, k < w.heap.size → k ≠ g → w'.heap[k]? = w.heap[k]?
theorem Only.refl (w : World) (g : Nat) : Only w w g := ⟨rfl, rfl, rfl, Nat.le_refl _, fun _ _ _ => rfl⟩
theorem Only.trans {a b c : World} {g : Nat} (h : Only a b g) (k : Only b c g) : Only a c g :=
  ⟨k.os.trans h.os, k.tape.trans h.tape, k.output.trans h.output, Nat.le_trans h.size k.size, fun i hi hg => (k.block i (Nat.lt_of_lt_of_le hi h.size) hg).trans (h.block i hi hg)⟩
theorem Only.of_below {a b : World} {g : Nat} (h : Below a.heap.size a b) : Only a b g := ⟨h.os, h.tape, h.output, h.size, fun i hi _ => h.block i hi⟩
theorem Only.set {a b : World} {g : Nat} (h : Only a b g) (j : Nat) (u : Value) : Only a (b.setCell ⟨g, j, none⟩ u) g :=
  ⟨h.os, h.tape, h.output, by simpa [World.setCell] using h.size, fun i hi hg => (Below.heap_setCell b ⟨g, j, none⟩ u i hg).trans (h.block i hi hg)⟩
theorem Only.below {a b c : World} {g B : Nat} (h : Below B a b) (k : Only b c g) (hg : B ≤ g) (hB : B ≤ b.heap.size) : Below B a c :=
  ⟨k.os.trans h.os, k.tape.trans h.tape, k.output.trans h.output, Nat.le_trans h.size k.size, fun i hi => (k.block i (by omega) (by omega)).trans (h.block i hi)⟩
theorem Only.keep {w w' : World} {g : Nat} (h : Only w w' g) : KeepBut w w' g none := ⟨h.size, fun i hi hg _ => h.block i hi hg⟩
/-- A store of many cells. -/
theorem Only.sets {a : World} {g : Nat} : ∀ (vs : List Value) (o : Nat) (b : World), Only a b g → Only a (b.setCells g o vs) g
  | [], _, _, h => h
  | v :: r, o, b, h => Only.sets r (o + 1) _ (h.set o v)
theorem blk_sets {g : Nat} {t : TypeId} : ∀ (vs : List Value) (o : Nat) (w : World) (C : Array Value), w.heap[g]? = some (.cells C t (0, 0)) → o + vs.length ≤ C.size →
    ∃ C', (w.setCells g o vs).heap[g]? = some (.cells C' t (0, 0)) ∧ C'.size = C.size ∧ (∀ k, k < o ∨ o + vs.length ≤ k → C'[k]? = C[k]?) ∧ ∀ j, j < vs.length → C'[o + j]? = vs[j]?
  | [], o, w, C, h, _ => ⟨C, h, rfl, fun _ _ => rfl, fun j hj => absurd hj (by simp)⟩
  | v :: r, o, w, C, h, hl => by
    simp only [List.length_cons] at hl
    obtain ⟨C', h1, h2, h3, h4⟩ := blk_sets r (o + 1) (w.setCell ⟨g, o, none⟩ v) (C.setIfInBounds o v) (blk_set h o v) (by simp; omega)
    refine ⟨C', h1, by rw [h2]; simp, fun k hk => ?_, fun j hj => ?_⟩
    · rw [h3 k (by simp only [List.length_cons] at hk; omega), Array.getElem?_setIfInBounds_ne (by simp only [List.length_cons] at hk; omega)]
    · match j with
      | 0 =>
        rw [Nat.add_zero, h3 o (by omega), Array.getElem?_setIfInBounds_self_of_lt (by omega)]
        rfl
      | j + 1 =>
        have := h4 j (by simp only [List.length_cons] at hj; omega)
        rw [show o + (j + 1) = o + 1 + j by omega, this]
        rfl
end Go.Proofs.Ytaphooibfgnkkaa.Hand
