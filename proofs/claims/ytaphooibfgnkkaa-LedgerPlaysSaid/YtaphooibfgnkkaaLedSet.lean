/- The ledger, call by call: set. -/
import Derived.Test.YtaphooibfgnkkaaLedNew
namespace Go.Proofs.Ytaphooibfgnkkaa.Hand
open Go.RowKit Go.Proofs.YtaphooibfgnkkaaW.PrintWords Go.Proofs.YtaphooibfgnkkaaW.PrintLast Go.Proofs.YtaphooibfgnkkaaW.PrintMore
set_option linter.unusedVariables false
set_option linter.unusedSimpArgs false
/-- The marks of pages. -/
def setF (l : List Int) : Marks := fun j => decide ((j : Int) ∈ l)
def marksA (m : Marks) : Array Value := (marksOf m).toArray
theorem marksA_size (m : Marks) : (marksA m).size = 512 := by unfold marksA; rw [List.size_toArray, marksOf_len]
theorem marksA_at (m : Marks) (j : Nat) (h : j < 512) : (marksA m)[j]? = some (.bool (m j)) := by unfold marksA; rw [List.getElem?_toArray]; exact marksOf_at m j h
theorem marksA_ext {m m' : Marks} {C : Array Value} (hs : C.size = 512) (h : ∀ j, j < 512 → C[j]? = some (.bool (m j))) : C = marksA m := by
  refine Array.ext_getElem? fun i => ?_
  by_cases hi : i < 512
  · rw [h i hi, marksA_at m i hi]
  · rw [Array.getElem?_eq_none (by omega), Array.getElem?_eq_none (by rw [marksA_size]; omega)]
theorem marksA_put (m : Marks) (i : Nat) (hi : i < 512) : (marksA m).setIfInBounds i (.bool true) = marksA (put_ m i) := by
  refine marksA_ext (m' := m) (by simp [marksA_size]) fun j hj => ?_
  unfold put_
  by_cases e : j = i
  · subst e
    rw [Array.getElem?_setIfInBounds_self_of_lt (by rw [marksA_size]; omega), if_pos rfl]
  · rw [Array.getElem?_setIfInBounds_ne (by omega), if_neg e]; exact marksA_at m j hj
theorem marksA_zero : marksZ = marksA none_ := marksZ_eq
theorem marks_congr {m m' : Marks} (h : ∀ j, j < 512 → m j = m' j) : marksA m = marksA m' := marksA_ext (m' := m) (marksA_size m) fun j hj => by rw [marksA_at m j hj, h j hj]
theorem setF_snoc_in (l : List Int) (k : Nat) (hk : k < l.length) (x : Nat) (hx : l.getD k 0 = (x : Int)) : marksA (put_ (setF (l.take k)) x) = marksA (setF (l.take (k + 1))) := by
  refine marks_congr fun j hj => ?_
  have e : l[k] = (x : Int) := by rw [List.getD_eq_getElem?_getD, List.getElem?_eq_getElem hk] at hx; exact hx
  unfold put_ setF
  rw [List.take_succ_eq_append_getElem hk, e]
  by_cases h : j = x
  · rw [if_pos h, h]; simp
  · rw [if_neg h, decide_eq_decide, List.mem_append, List.mem_singleton]
    exact ⟨Or.inl, fun h' => h'.resolve_right (by omega)⟩
theorem setF_snoc_out (l : List Int) (k : Nat) (hk : k < l.length) (hx : l.getD k 0 < 0 ∨ 512 ≤ l.getD k 0) : marksA (setF (l.take k)) = marksA (setF (l.take (k + 1))) := by
  refine marks_congr fun j hj => ?_
  have e : l.getD k 0 = l[k] := by rw [List.getD_eq_getElem?_getD, List.getElem?_eq_getElem hk]; rfl
  rw [e] at hx
  unfold setF
  rw [List.take_succ_eq_append_getElem hk, decide_eq_decide, List.mem_append, List.mem_singleton]
  exact ⟨Or.inl, fun h' => h'.resolve_right (by omega)⟩
def SetRel (w : World) (l : List Int) (i : Value) (wr : World) : Prop :=
  ∃ k : Nat, k ≤ l.length ∧ i = .int .i64 (k : Int) ∧ Below w.heap.size w wr ∧ wr.heap[w.heap.size]? = some (.cells marksZ 49 (0, 0)) ∧ wr.heap[w.heap.size + 1]? = some (.cells (marksA (setF (l.take k))) 49 (0, 0))
set_option maxHeartbeats 1000000 in
theorem set_any {w : World} {A : Option Addr} {c : Nat} {l : List Int} (hC : (Kd.int .i64).C w A l.length l) (hl : l.length ≤ 140737488355328) :
    Calls Try.prog 23 #[.slice A l.length c] w fun e w' => e = .returned (.agg (marksA (setF l))) ∧ Below w.heap.size w w' := by
  have hz := zero_marks
  have HC := Aside0.mk hC
  clear hC
  generalize hZ : marksZ = zz at hz
  have HZ := Aside0.mk hZ
  clear hZ
  go_enter Try.func23, Try.ntmps23
  go_wp2
  go_loopw [5, 8] (fun _ i wr => SetRel w l i wr) (fun _ i _ => l.length - (intOf i).toNat)
  case atStart =>
    refine ⟨0, Nat.zero_le _, rfl, below_alloc (below_alloc (Below.refl _ _) _) _, ?_, ?_⟩
    · rw [HZ.out]; exact blk_alloc (blk_new w _) _
    · have e : zz = marksA (setF (l.take 0)) := by
        rw [← HZ.out, marksA_zero]
        exact marks_congr fun j _ => by simp [setF, none_]
      have := blk_new (w.alloc (.cells zz 49)) (.cells zz 49)
      rw [← e]
      simpa using this
  case round =>
    obtain ⟨k, hk, rfl, hb, hr0, hr1⟩ := hrel
    have HB := Aside0.mk hb
    have H0 := Aside0.mk hr0
    have H1 := Aside0.mk hr1
    by_cases hlt : k < l.length
    · obtain ⟨ad, hA, hcell⟩ := (Kd.reads_of_C (enc := Value.int .i64) (d := (0 : Int)) (h1 := fun _ => rfl) (Kd.C_below HC.out hb)).2.2 (by omega)
      subst hA
      have hk' := hcell k hlt
      clear hcell hb hr0 hr1
      generalize hx : l.getD k 0 = x at hk'
      have HX := Aside0.mk hx
      clear hx
      by_cases x0 : x < 0
      · have z1 : decide (0 ≤ x) = false := decide_eq_false (by omega)
        have HO := Aside0.mk (setF_snoc_out l k hlt (by rw [HX.out]; exact Or.inl x0))
        clear x0
        go_wp2
        go_roundw
        case rel => exact ⟨k + 1, by omega, by go_num, HB.out, H0.out, by rw [← HO.out]; exact H1.out⟩
        case measure => simp [intOf]; omega
      · have z1 : decide (0 ≤ x) = true := decide_eq_true (by omega)
        by_cases x1 : 512 ≤ x
        · have z2 : decide (x < 512) = false := decide_eq_false (by omega)
          have HO := Aside0.mk (setF_snoc_out l k hlt (by rw [HX.out]; exact Or.inr x1))
          clear x0 x1
          go_wp2
          go_roundw
          case rel => exact ⟨k + 1, by omega, by go_num, HB.out, H0.out, by rw [← HO.out]; exact H1.out⟩
          case measure => simp [intOf]; omega
        · have z2 : decide (x < 512) = true := decide_eq_true (by omega)
          obtain ⟨m, rfl⟩ := Int.eq_ofNat_of_zero_le (show 0 ≤ x by omega)
          have z3 : (0 : Int) ≤ (m : Int) := by omega
          have z4 : (m : Int) < 512 := by omega
          have HO := Aside0.mk (setF_snoc_in l k hlt m HX.out)
          have hc := blk_cell H1.out m
          rw [marksA_at _ m (by omega)] at hc
          have hf := blk_frozen H1.out m
          have HM : Aside0 (m < 512) := ⟨by omega⟩
          clear x0 x1
          go_wp2
          go_roundw
          case rel =>
            refine ⟨k + 1, by omega, by go_num, HB.out.setCell (by show w.heap.size ≤ w.heap.size + 1; omega) _, blk_far H0.out (by show w.heap.size ≠ w.heap.size + 1; omega) _, ?_⟩
            exact blk_put H1.out m _ (by rw [marksA_put _ m HM.out, HO.out])
          case measure => simp [intOf]; omega
    · have e : l.take k = l := List.take_of_length_le (by omega)
      rw [e] at hr1
      clear hb e H1
      generalize hM : marksA (setF l) = M at hr1
      have HM := Aside0.mk hM
      have HMs : Aside0 (M.size = 512) := ⟨by rw [← hM]; exact marksA_size _⟩
      have HMa : Aside0 (M.all (·.oneCell') = true) := ⟨by rw [← hM]; exact marksOf_all _⟩
      have HZs : Aside0 (marksZ.size = 512) := ⟨by rw [marksA_zero]; exact marksA_size _⟩
      have HR0 := Aside0.mk hr0
      have HR1 := Aside0.mk hr1
      clear hM hr0 hr1
      go_wp2_with (first | ((with_reducible refine wpList_load_row rfl 49 _ rfl (w.heap.size + 1) rfl 49 M (0, 0) _ HR1.out Try.underlying49 rfl ?hi ?_); (case hi => rw [HMs.out]; exact info_marks)) | ((with_reducible refine wpList_store_row rfl 49 _ _ rfl w.heap.size M rfl rfl 49 _ HR0.out ?hi ?hs HMa.out ?_); (case hi => rw [HMs.out]; exact info_marks); (case hs => rw [HMs.out]; exact HZs.out)))
      refine bodyPost_ret (v := .agg M) (results_cell_row Try.results23 _ _ w.heap.size 49 M (0, 0) _ rfl (setRow_heap _ _ _ _ _ _ HR0.out) Try.underlying49 rfl (by rw [HMs.out]; exact info_marks)) rfl ⟨by rw [HM.out], ?_⟩
      have hB := HB.out
      exact ⟨hB.os, hB.tape, hB.output, by rw [setRow_size]; exact hB.size, fun i hi => (setRow_other _ _ _ _ (by omega)).trans (hB.block i hi)⟩
end Go.Proofs.Ytaphooibfgnkkaa.Hand
