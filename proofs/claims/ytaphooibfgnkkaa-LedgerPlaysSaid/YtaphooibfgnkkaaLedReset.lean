/- The ledger, call by call: Reset, Commit. -/
import Derived.Test.YtaphooibfgnkkaaLedSet
import Derived.Deep.RegionHeld3
namespace Go.Proofs.Ytaphooibfgnkkaa.Hand
open Go.RowKit Go.Proofs.YtaphooibfgnkkaaW.PrintWords Go.Proofs.YtaphooibfgnkkaaW.PrintLast Go.Proofs.YtaphooibfgnkkaaW.PrintMore
set_option linter.unusedVariables false
set_option linter.unusedSimpArgs false
/-- Marks that are stored. -/
structure IsM (M : Array Value) (m : Marks) : Prop where
  eq : M = marksA m
theorem IsM.size {M : Array Value} {m : Marks} (h : IsM M m) : M.size = 512 := by rw [h.eq]; exact marksA_size _
theorem IsM.list {M : Array Value} {m : Marks} (h : IsM M m) : M.toList = marksOf m := by rw [h.eq]; unfold marksA; rw [List.toList_toArray]
theorem IsM.all {M : Array Value} {m : Marks} (h : IsM M m) : M.all (·.oneCell') = true := by rw [h.eq]; exact marksOf_all _
theorem IsM.info {M : Array Value} {m : Marks} (h : IsM M m) : (Try.prog.info? 49).map (·.size) = some M.size := by rw [h.size]; exact info_marks
theorem Lg.thereM {w : World} {g n : Nat} {O N T : Marks} (h : Lg w g n O N T) {M : Array Value} {m : Marks} (hM : IsM M m) (o : Nat) (ho : o + 512 ≤ 1537) : w.there g o M.size := by rw [hM.size]; exact h.there o ho
set_option maxHeartbeats 1000000 in
theorem reset_any {w : World} {g n : Nat} {O N T : Marks} {A B : Option Addr} {c d : Nat} {l m : List Int} (h : Lg w g n O N T) (hA : (Kd.int .i64).C w A l.length l) (hB : (Kd.int .i64).C w B m.length m) (hl : l.length ≤ 140737488355328) (hm : m.length ≤ 140737488355328) :
    Calls Try.prog 13 #[.pointer (some ⟨g, 0, none⟩), .slice A l.length c, .slice B m.length d] w (SetOut w g n (setF l) (setF m) none_) := by
  have hz := zero_marks
  have hI : IsM marksZ none_ := ⟨marksA_zero⟩
  generalize marksZ = zz at hz hI
  have HI := Aside0.mk hI
  have HH := Aside0.mk h
  have HA := Aside0.mk (set_any (c := c) hA hl)
  have HC := Aside0.mk hB
  clear h hA hI hB
  have hX : IsM (marksA (setF l)) (setF l) := ⟨rfl⟩
  generalize marksA (setF l) = X at HA hX
  have HX := Aside0.mk hX
  have hY : IsM (marksA (setF m)) (setF m) := ⟨rfl⟩
  have HB : Aside0 (∀ W : World, (Kd.int .i64).C W B m.length m → Calls Try.prog 23 #[.slice B m.length d] W fun e w' => e = .returned (.agg (marksA (setF m))) ∧ Below W.heap.size W w') := ⟨fun W hW => set_any (c := d) hW hm⟩
  generalize marksA (setF m) = Y at HB hY
  have HY := Aside0.mk hY
  clear hX hY
  go_enter Try.func13, Try.ntmps13
  go_wp2_with (first | (go_at_call 23; have _q := HL1; refine (HB.out _ (Kd.C_below HC.out HW1.out)).mono ?_; rintro e w2 ⟨rfl, hb⟩; have HL2 := Aside0.mk (HL1.out.below hb); have HW2 := Aside0.mk (below_step HW1.out hb); have HL3 := Aside0.mk (HL2.out.setO (setF l)); have HL4 := Aside0.mk (HL3.out.setN (setF m)); clear hb) | (go_at_call 23; refine HA.out.mono ?_; rintro e w1 ⟨rfl, hb⟩; have HL1 := Aside0.mk (HH.out.below hb); have HW1 := Aside0.mk hb; clear hb) | ((with_reducible refine wpList_store_mid rfl 49 _ _ rfl g 1 X rfl rfl ?h1 HX.out.info HX.out.all ?_); (case h1 => exact HL2.out.thereM HX.out 1 (by omega)); rw [HX.out.list]) | ((with_reducible refine wpList_store_mid rfl 49 _ _ rfl g 513 Y rfl rfl ?h1 HY.out.info HY.out.all ?_); (case h1 => exact HL3.out.thereM HY.out 513 (by omega)); rw [HY.out.list]) | ((with_reducible refine wpList_store_mid rfl 49 _ _ rfl g 1025 zz rfl rfl ?h1 HI.out.info HI.out.all ?_); (case h1 => exact HL4.out.thereM HI.out 1025 (by omega)); rw [HI.out.list]))
  go_end0
  exact ⟨rfl, Only.sets _ _ _ (Only.sets _ _ _ (Only.sets _ _ _ (Only.of_below HW2.out))), HL4.out.setT none_⟩
end Go.Proofs.Ytaphooibfgnkkaa.Hand
