/- The document's ledger: Take. -/
import Derived.Test.YtaphooibfgnkkaaLedRef2
namespace Go.Proofs.Ytaphooibfgnkkaa.Hand
open Go.RowKit Go.Proofs.YtaphooibfgnkkaaW.PrintWords Go.Proofs.YtaphooibfgnkkaaW.PrintLast Go.Proofs.YtaphooibfgnkkaaW.PrintMore
set_option linter.unusedVariables false
set_option linter.unusedSimpArgs false
/-- All below b but block g is as it was. -/
structure Ref (w w' : World) (g b : Nat) : Prop where
  os : w'.os = w.os
  tape : w'.tape = w.tape
  output : w'.output = w.output
  size : w.heap.size ≤ w'.heap.size
  block : ∀ k, k < b → k ≠ g → w'.heap[k]? = w.heap[k]?
theorem Ref.below {a w w' : World} {g b B : Nat} (h : Below B a w) (k : Ref w w' g b) (hg : B ≤ g) (hb : g < b) : Below B a w' :=
  ⟨k.os.trans h.os, k.tape.trans h.tape, k.output.trans h.output, Nat.le_trans h.size k.size, fun i hi => (k.block i (by omega) (by omega)).trans (h.block i hi)⟩
theorem Lg.ref {w w' : World} {q n g b : Nat} {O N T : Marks} (h : Lg w q n O N T) (k : Ref w w' g b) (hq : q < g) (hb : g < b) : Lg w' q n O N T := by
  obtain ⟨⟨C, h1, h2⟩, h3⟩ := h
  exact ⟨⟨C, (k.block q (by omega) (by omega)).trans h1, h2⟩, h3⟩
def tL (T : List Int) (o : Option Nat) : List Int := match o with
  | none => T
  | some k => T ++ [(k : Int)]
theorem tL_marks (T : List Int) (o : Option Nat) : setF (tL T o) = tm (setF T) o := by
  cases o with
  | none => rfl
  | some k =>
    funext j
    unfold tL tm put_ setF
    simp only [List.mem_append, List.mem_singleton]
    by_cases e : j = k
    · rw [if_pos e]; subst e; simp
    · rw [if_neg e]
      have : ¬ (j : Int) = (k : Int) := by omega
      simp [this]
def TakeOutR (w : World) (g n b : Nat) (O N T : List Int) (e : Ending) (w' : World) : Prop :=
  e = .returned (.tuple #[.int .i64 (tk (takeF (useS O N T) n)), .int .i64 (te (takeF (useS O N T) n))]) ∧ Ref w w' g b ∧ Rl w' g n O N (tL T (takeF (useS O N T) n)) b
theorem took {w w1 : World} {g n b : Nat} {O N T : List Int} {A1 A2 : Option Addr} {c1 c2 : Nat} {v v1 : Value} (h1 : w.heap[g]? = some (.cells #[.int .i64 (n : Int), .slice A1 O.length c1, .slice A2 N.length c2, v] 46 (0, 0)))
    (h2 : Row w g b A1 O) (h3 : Row w g b A2 N) (lt : g < b) (bs : b ≤ w.heap.size) (hb : Below b w w1) (hown : w1.ownsRow b 3 1 v1 T.length (nums .i64 T)) :
    Ref w (w1.setCell ⟨g, 3, none⟩ v1) g b ∧ Rl (w1.setCell ⟨g, 3, none⟩ v1) g n O N T b := by
  have hg : w1.heap[g]? = some (.cells #[.int .i64 (n : Int), .slice A1 O.length c1, .slice A2 N.length c2, v] 46 (0, 0)) := (hb.block g lt).trans h1
  refine ⟨⟨hb.os, hb.tape, hb.output, by simpa [World.setCell] using hb.size, fun k hk hne => (Below.heap_setCell w1 ⟨g, 3, none⟩ v1 k hne).trans (hb.block k hk)⟩, ⟨A1, c1, A2, c2, v1, blk_set hg _ _, ?_, ?_, ownsRow_setCell_below hown lt v1⟩, lt, by simpa [World.setCell] using Nat.le_trans bs hb.size⟩
  · exact (h2.keep fun k hk _ => hb.block k hk).set _ _
  · exact (h3.keep fun k hk _ => hb.block k hk).set _ _
theorem info_int : (Try.prog.info? 3).map (fun i => (i.zero, i.size, i.bytes)) = some (some (.int .i64 0), 1, 8) := by kernel_rfl
set_option maxHeartbeats 1000000 in
theorem Rtake_any {w : World} {g n b : Nat} {O N T : List Int} (h : Rl w g n O N T b) (hn : n ≤ 512) (hT : T.length ≤ 1000) :
    Calls Try.prog 18 #[.pointer (some ⟨g, 0, none⟩)] w (TakeOutR w g n b O N T) := by
  have HH := Aside0.mk h
  have hc := h.c0
  clear h
  go_enter Try.func18, Try.ntmps18
  go_wp2
  go_loop [4] (fun i => TakeRel (useS O N T) n i) (fun i => n - (intOf i).toNat)
  case atStart => exact ⟨2, Nat.le_refl _, Or.inr rfl, rfl, fun j h1 h2 => absurd h1 (by omega)⟩
  case round =>
    obtain ⟨k, hk2, hk, rfl, hj⟩ := hrel
    have HJ := Aside0.mk hj
    clear hj
    by_cases hlt : k < n
    · have HU := Aside0.mk (Rused_any HH.out (k : Int))
      rw [usedR_nat O N T k hk2] at HU
      generalize hu : useS O N T k = u at HU
      have HUU := Aside0.mk hu
      clear hu
      cases u
      · obtain ⟨⟨A1, c1, A2, c2, v, h1, h2, h3, h4⟩, h5, h6⟩ := HH.out
        obtain ⟨A3, c3, rfl⟩ := own_slice h4
        have q3 := blk_cell h1 3
        have X1 := Aside0.mk h1
        have X2 := Aside0.mk h2
        have X3 := Aside0.mk h3
        have X4 := Aside0.mk h4
        clear h1 h2 h3 h4
        go_wp2_with (first | (go_at_call 22; refine HU.out.mono ?_; rintro e w1 ⟨rfl, rfl⟩) | (at_builtin; refine print_append_num (w0 := w1) b rfl _ _ 22 3 .i64 8 rfl Try.underlying22 info_int (by omega) (.slice A3 T.length c3) T (k : Int) rfl rfl X4.out (Below.refl _ _) h6 (by omega) ?_; intro v1 w2 hown hb _ _; obtain ⟨A4, c4, rfl⟩ := own_slice hown; have hg := (hb.block g h5).trans X1.out; have r3 := blk_cell hg 3; have f3 := blk_frozen hg 3; have Y := Aside0.mk (took X1.out X2.out X3.out h5 h6 hb hown); clear hown hb hg))
        go_ret2
        unfold TakeOutR
        rw [takeF_some hk2 hlt HUU.out HJ.out]
        have Y2 := Y.out
        rw [List.length_append, List.length_singleton] at Y2
        exact ⟨rfl, Y2⟩
      · go_wp2_with (go_at_call 22; refine HU.out.mono ?_; rintro e w1 ⟨rfl, rfl⟩)
        go_round
        case rel =>
          refine ⟨k + 1, by omega, Or.inl (by omega), by go_num, fun j h1 h2 => ?_⟩
          by_cases e : j = k
          · rw [e]; exact HUU.out
          · exact HJ.out j h1 (by omega)
        case measure => simp [intOf]; omega
    · have HF := Aside0.mk (takeF_none (U := useS O N T) (n := n) (fun j h1 h2 => HJ.out j h1 (by omega)))
      go_wp2
      go_ret2
      unfold TakeOutR
      rw [HF.out]
      exact ⟨rfl, ⟨rfl, rfl, rfl, Nat.le_refl _, fun _ _ _ => rfl⟩, HH.out⟩
end Go.Proofs.Ytaphooibfgnkkaa.Hand
