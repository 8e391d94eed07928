/- A ledger that is made, and what lets all be free. -/
import Derived.Test.YtaphooibfgnkkaaLedTake
namespace Go.Proofs.Ytaphooibfgnkkaa.Hand
open Go.RowKit Go.Proofs.YtaphooibfgnkkaaW.PrintWords Go.Proofs.YtaphooibfgnkkaaW.PrintLast Go.Proofs.YtaphooibfgnkkaaW.PrintMore
set_option linter.unusedVariables false
set_option linter.unusedSimpArgs false
def ledZ : Array Value := (.int .i64 0 :: List.replicate 1536 (.bool false)).toArray
def marksZ : Array Value := (List.replicate 512 (.bool false)).toArray
theorem zero_led (W : World) : (zeroValue 51).run Try.prog W = .ok (.agg (ledZ)) W := by kernel_rfl
theorem zero_marks (W : World) : (zeroValue 49).run Try.prog W = .ok (.agg (marksZ)) W := by kernel_rfl
theorem zero_size : ledZ.size = 1537 := by unfold ledZ; rw [List.size_toArray, List.length_cons, List.length_replicate]
theorem zero_at (j : Nat) (h1 : 1 ≤ j) (h2 : j < 1537) : (ledZ)[j]? = some (.bool false) := by
  unfold ledZ
  rw [List.getElem?_toArray]
  obtain ⟨j, rfl⟩ : ∃ k, j = k + 1 := ⟨j - 1, by omega⟩
  rw [List.getElem?_cons_succ, List.getElem?_replicate, if_pos (by omega)]
theorem new_cells (n : Nat) : Cells ((ledZ).setIfInBounds 0 (.int .i64 (n : Int))) (n : Int) none_ none_ none_ := by
  have hs := zero_size
  refine ⟨by simp [hs], ?_, fun j hj => ?_, fun j hj => ?_, fun j hj => ?_⟩
  · rw [Array.getElem?_setIfInBounds_self_of_lt (by omega)]
  · rw [Array.getElem?_setIfInBounds_ne (by omega)]; exact zero_at _ (by omega) (by omega)
  · rw [Array.getElem?_setIfInBounds_ne (by omega)]; exact zero_at _ (by omega) (by omega)
  · rw [Array.getElem?_setIfInBounds_ne (by omega)]; exact zero_at _ (by omega) (by omega)
def NewOut (w : World) (n : Nat) (e : Ending) (w' : World) : Prop := e = .returned (.pointer (some ⟨w.heap.size, 0, none⟩)) ∧ Below w.heap.size w w' ∧ Lg w' w.heap.size n none_ none_ none_
theorem new_out (w : World) (n : Nat) (hn : n ≤ 512) : NewOut w n (.returned (.pointer (some ⟨w.heap.size, 0, none⟩))) (w.alloc (.cells ((ledZ).setIfInBounds 0 (.int .i64 (n : Int))) 51)) :=
  ⟨rfl, below_alloc (Below.refl _ _) _, ⟨⟨_, blk_new _ _, new_cells n⟩, hn⟩⟩
theorem new_any (p : Int) (w : World) (n : Nat) (hn : p < 0 ∧ n = 0 ∨ 512 < p ∧ n = 512 ∨ p = (n : Int) ∧ n ≤ 512) : Calls Try.prog 9 #[.int .i64 p] w (NewOut w n) := by
  have hz := zero_led
  have ho := new_out w n (by omega)
  have hs := zero_size
  have hne : (ledZ = #[]) = False := eq_false (fun h => by rw [h] at hs; simp at hs)
  generalize ledZ = zc at hz ho hne hs
  have HO := Aside0.mk ho
  clear ho hs
  rcases hn with ⟨h1, rfl⟩ | ⟨h1, rfl⟩ | ⟨rfl, h2⟩
  · have z1 : p ≤ 512 := by omega
    have z2 : p ≤ 0 := by omega
    go_enter Try.func9, Try.ntmps9
    go_wp2
    go_ret
    exact HO.out
  · have z1 : ¬ p ≤ 512 := by omega
    go_enter Try.func9, Try.ntmps9
    go_wp2
    go_ret
    exact HO.out
  · have z1 : (n : Int) ≤ 512 := by omega
    by_cases h3 : n = 0
    · subst h3
      go_enter Try.func9, Try.ntmps9
      go_wp2
      go_ret
      exact HO.out
    · have z2 : (0 : Int) < (n : Int) := by omega
      go_enter Try.func9, Try.ntmps9
      go_wp2
      go_ret
      exact HO.out
/-! ### marks -/
def marksOf (m : Marks) : List Value := (List.range 512).map fun i => Value.bool (m i)
theorem marksOf_len (m : Marks) : (marksOf m).length = 512 := by unfold marksOf; rw [List.length_map, List.length_range]
theorem marksOf_at (m : Marks) (j : Nat) (h : j < 512) : (marksOf m)[j]? = some (.bool (m j)) := by unfold marksOf; rw [List.getElem?_map, List.getElem?_range h]; rfl
theorem marksOf_one (m : Marks) : ∀ v ∈ marksOf m, v.oneCell' = true := by
  intro v hv
  obtain ⟨i, _, rfl⟩ := List.mem_map.1 hv
  rfl
theorem marksOf_all (m : Marks) : (marksOf m).toArray.all (·.oneCell') = true := all_oneCell_toArray (marksOf_one m)
theorem marksZ_eq : marksZ = (marksOf none_).toArray := by
  have e : List.replicate 512 (Value.bool false) = marksOf none_ := by
    refine List.ext_getElem? fun i => ?_
    by_cases h : i < 512
    · rw [marksOf_at _ i h, List.getElem?_replicate, if_pos h]; rfl
    · rw [List.getElem?_eq_none (by rw [List.length_replicate]; omega), List.getElem?_eq_none (by rw [marksOf_len]; omega)]
  unfold marksZ
  rw [e]
theorem info_marks : (Try.prog.info? 49).map (·.size) = some 512 := by kernel_rfl
/-- What a store of one field's marks makes of a ledger. -/
theorem Lg.there {w : World} {g n : Nat} {O N T : Marks} (h : Lg w g n O N T) (o : Nat) (ho : o + 512 ≤ 1537) : w.there g o 512 := by
  obtain ⟨⟨C, h1, h2⟩, _⟩ := h
  intro j hj
  refine ⟨?_, blk_frozen h1 _⟩
  rw [blk_cell h1, Array.getElem?_eq_getElem (by rw [h2.size]; omega)]
  rfl
theorem Lg.setO {w : World} {g n : Nat} {O N T : Marks} (h : Lg w g n O N T) (m : Marks) : Lg (w.setCells g 1 (marksOf m)) g n m N T := by
  obtain ⟨⟨C, h1, h2⟩, h3⟩ := h
  have hl := marksOf_len m
  obtain ⟨C', a1, a2, a3, a4⟩ := blk_sets (marksOf m) 1 w C h1 (by rw [h2.size]; omega)
  exact ⟨⟨C', a1, ⟨a2.trans h2.size, (a3 0 (by omega)).trans h2.pages, fun j hj => (a4 j (by omega)).trans (marksOf_at m j hj), fun j hj => (a3 _ (by omega)).trans (h2.newer j hj), fun j hj => (a3 _ (by omega)).trans (h2.taken j hj)⟩⟩, h3⟩
theorem Lg.setN {w : World} {g n : Nat} {O N T : Marks} (h : Lg w g n O N T) (m : Marks) : Lg (w.setCells g 513 (marksOf m)) g n O m T := by
  obtain ⟨⟨C, h1, h2⟩, h3⟩ := h
  have hl := marksOf_len m
  obtain ⟨C', a1, a2, a3, a4⟩ := blk_sets (marksOf m) 513 w C h1 (by rw [h2.size]; omega)
  exact ⟨⟨C', a1, ⟨a2.trans h2.size, (a3 0 (by omega)).trans h2.pages, fun j hj => (a3 _ (by omega)).trans (h2.older j hj), fun j hj => (a4 j (by omega)).trans (marksOf_at m j hj), fun j hj => (a3 _ (by omega)).trans (h2.taken j hj)⟩⟩, h3⟩
theorem Lg.setT {w : World} {g n : Nat} {O N T : Marks} (h : Lg w g n O N T) (m : Marks) : Lg (w.setCells g 1025 (marksOf m)) g n O N m := by
  obtain ⟨⟨C, h1, h2⟩, h3⟩ := h
  have hl := marksOf_len m
  obtain ⟨C', a1, a2, a3, a4⟩ := blk_sets (marksOf m) 1025 w C h1 (by rw [h2.size]; omega)
  exact ⟨⟨C', a1, ⟨a2.trans h2.size, (a3 0 (by omega)).trans h2.pages, fun j hj => (a3 _ (by omega)).trans (h2.older j hj), fun j hj => (a3 _ (by omega)).trans (h2.newer j hj), fun j hj => (a4 j (by omega)).trans (marksOf_at m j hj)⟩⟩, h3⟩
def SetOut (w : World) (g n : Nat) (O N T : Marks) (e : Ending) (w' : World) : Prop := e = .returned (.tuple #[]) ∧ Only w w' g ∧ Lg w' g n O N T
theorem abort_any {w : World} {g n : Nat} {O N T : Marks} (h : Lg w g n O N T) : Calls Try.prog 15 #[.pointer (some ⟨g, 0, none⟩)] w (SetOut w g n O N none_) := by
  have hz := zero_marks
  rw [marksZ_eq] at hz
  have HT := Aside0.mk (h.there 1025 (by omega))
  have HH := Aside0.mk h
  have hl := marksOf_len none_
  have ha := marksOf_all none_
  clear h
  have HL := Aside0.mk hl
  have HA := Aside0.mk ha
  clear hl ha
  generalize hm : marksOf none_ = ms at hz HL HA
  have HM := Aside0.mk hm
  clear hm
  go_enter Try.func15, Try.ntmps15
  go_wp2_with ((with_reducible refine wpList_store_mid rfl 49 _ _ rfl g 1025 ms.toArray rfl rfl ?h1 ?h2 HA.out ?_); (case h1 => rw [List.size_toArray, HL.out]; exact HT.out); (case h2 => rw [List.size_toArray, HL.out]; exact info_marks))
  go_end0
  rw [← HM.out]
  exact ⟨rfl, (Only.sets _ _ _ (Only.refl w g)), HH.out.setT none_⟩
theorem abort_nil (w : World) : Calls Try.prog 15 #[.pointer none] w fun e w' => e = .returned (.tuple #[]) ∧ w' = w := by
  go_enter Try.func15, Try.ntmps15
  go_wp2
  go_end0
  exact ⟨rfl, rfl⟩
end Go.Proofs.Ytaphooibfgnkkaa.Hand
