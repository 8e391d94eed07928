/- By hand: Decode of the program, for any row of bytes (decode_any), and, in plain Lean, what is sealed, opened and encoded. No condition. -/
import Derived.Test.YtgbcfkcnoncgdaaHandA
import Derived.Test.YtgbcfkcnoncgdaaSp0
import Derived.Test.YtgbcfkcnoncgdaaSp6
import Derived.Test.YtgbcfkcnoncgdaaSp11
import Derived.Test.YtgbcfkcnoncgdaaSp13
import Derived.Laws.ResultCell
import Derived.Test.YtgbcfkcnoncgdaaWLast
import Derived.Test.YtgbcfkcnoncgdaaWTab
import Derived.Test.YtgbcfkcnoncgdaaWInv
import Derived.Test.YtgbcfkcnoncgdaaWInvWords
import Derived.Deep.CutBlock
import Derived.Deep.CutRange
import Derived.Deep.DeepCutAuto
namespace Go.Proofs.Ytgbcfkcnoncgdaa.Hand
open Go.RowKit Go.Proofs.Ytgbcfkcnoncgdaa.Sp Go.Proofs.YtgbcfkcnoncgdaaW.PrintWords Go.Proofs.YtgbcfkcnoncgdaaW.PrintLast Go.Proofs.YtgbcfkcnoncgdaaW.PrintMore
set_option linter.unusedVariables false
set_option linter.unusedSimpArgs false
def takeC (l : List Int) (s : RS) : (ByteArray × ByteArray × Int × Int) × RS :=
  if (rNum l (rText l s 24).2 1).1 = 0 then ((strOfNums (rText l s 24).1, strOfNums (rText l (rNum l (rText l s 24).2 1).2 24).1, 0, 0), (rText l (rNum l (rText l s 24).2 1).2 24).2)
  else ((strOfNums (rText l s 24).1, ⟨#[]⟩, (rNum l (rNum l (rText l s 24).2 1).2 2).1, (rNum l (rNum l (rNum l (rText l s 24).2 1).2 2).2 2).1), (rNum l (rNum l (rNum l (rText l s 24).2 1).2 2).2 2).2)
def cellV (c : ByteArray × ByteArray × Int × Int) : Array Value := #[.string c.1, .string c.2.1, .int .i64 c.2.2.1, .int .i64 c.2.2.2]
def TakeCOut (w : World) (bs g : Nat) (l : List Int) (r : (ByteArray × ByteArray × Int × Int) × RS) (x : Ending) (w' : World) : Prop := x = .returned (.agg (cellV r.1)) ∧ Only w w' g ∧ Rd w' bs g l r.2
abbrev cell0 : Array Value := #[.string ⟨#[]⟩, .string ⟨#[]⟩, .int .i64 0, .int .i64 0]
theorem blk_only {w w' : World} {g q : Nat} {C : Array Value} {t : TypeId} (h : w.heap[q]? = some (.cells C t (0, 0))) (ho : Only w w' g) (hq : q ≠ g) : w'.heap[q]? = some (.cells C t (0, 0)) := (ho.block _ (blk_lt h) hq).trans h
theorem four_cells {w : World} {q : Nat} {X Y Z V : Value} {t : TypeId} (h : w.heap[q]? = some (.cells #[X, Y, Z, V] t (0, 0))) : w.cell? ⟨q, 0, none⟩ = some X ∧ w.cell? ⟨q, 1, none⟩ = some Y ∧ w.cell? ⟨q, 2, none⟩ = some Z ∧ w.cell? ⟨q, 3, none⟩ = some V ∧ ∀ j, w.frozen? ⟨q, j, none⟩ = false := ⟨blk_cell h 0, blk_cell h 1, blk_cell h 2, blk_cell h 3, blk_frozen h⟩
theorem Only.far {a b : World} {g q : Nat} (h : Only a b g) (hq : a.heap.size ≤ q) (j : Nat) (u : Value) : Only a (b.setCell ⟨q, j, none⟩ u) g :=
  ⟨h.os, h.tape, h.output, by simpa [World.setCell] using h.size, fun i hi hg => (Below.heap_setCell b ⟨q, j, none⟩ u i (show i ≠ q by omega)).trans (h.block i hi hg)⟩
theorem Rd.far {w : World} {bs g q : Nat} {l : List Int} {s : RS} (h : Rd w bs g l s) (hq : g < q) (j : Nat) (u : Value) : Rd (w.setCell ⟨q, j, none⟩ u) bs g l s := h.other ((Only.refl w q).set j u) (Or.inr hq)
theorem blk_far {w : World} {q k : Nat} {C : Array Value} {t : TypeId} (h : w.heap[q]? = some (.cells C t (0, 0))) (hq : q ≠ k) (j : Nat) (u : Value) : (w.setCell ⟨k, j, none⟩ u).heap[q]? = some (.cells C t (0, 0)) := (Below.heap_setCell w ⟨k, j, none⟩ u q hq).trans h
theorem info_cell : (Try.prog.info? 57).map (·.size) = some 4 := by kernel_rfl
theorem cell_laid {w wz : World} {bs g : Nat} {l : List Int} {s : RS} {c : ByteArray × ByteArray × Int × Int} {a : Act} (h1 : wz.heap[w.heap.size]? = some (.cells cell0 57 (0, 0))) (hO : Only w wz g) (hR : Rd wz bs g l s) (hg : g < w.heap.size)
    (ha : a.tmps[2]? = some (.pointer (some ⟨w.heap.size, 0, none⟩))) (hd : a.defers = []) :
    bodyPost Try.prog Try.f23 (TakeCOut w bs g l (c, s)) .ret a ((((wz.setCell ⟨w.heap.size, 0, none⟩ (.string c.1)).setCell ⟨w.heap.size, 1, none⟩ (.string c.2.1)).setCell ⟨w.heap.size, 2, none⟩ (.int .i64 c.2.2.1)).setCell ⟨w.heap.size, 3, none⟩ (.int .i64 c.2.2.2)) := by
  have h2 := blk_set (blk_set (blk_set (blk_set h1 0 (.string c.1)) 1 (.string c.2.1)) 2 (.int .i64 c.2.2.1)) 3 (.int .i64 c.2.2.2)
  exact bodyPost_ret (v := .agg (cellV c)) (results_cell_row Try.results23 _ _ w.heap.size 57 (cellV c) (0, 0) _ (by simp [Act.eval, ha]) h2 Try.underlying57 rfl info_cell) hd
    ⟨rfl, (((hO.far (Nat.le_refl _) 0 _).far (Nat.le_refl _) 1 _).far (Nat.le_refl _) 2 _).far (Nat.le_refl _) 3 _, (((hR.far hg 0 _).far hg 1 _).far hg 2 _).far hg 3 _⟩
set_option maxHeartbeats 2000000 in
theorem takeCell_any {w : World} {bs g : Nat} {l : List Int} {s : RS} (h : Rd w bs g l s) : Calls Try.prog 23 #[.pointer (some ⟨g, 0, none⟩)] w (TakeCOut w bs g l (takeC l s)) := by
  have hgw := h.lt
  have HO1 : Aside0 (Only w (w.alloc (.cells cell0 57)) g) := ⟨Only.of_below (below_alloc (Below.refl _ _) _)⟩
  have HT1 := Aside0.mk (Text_any (h.below (below_alloc (Below.refl _ _) (.cells cell0 57))) 24)
  have HD1 : Aside0 ((w.alloc (.cells cell0 57)).heap[w.heap.size]? = some (.cells cell0 57 (0, 0))) := ⟨blk_new _ _⟩
  unfold takeC
  generalize rText l s 24 = r1 at HT1 ⊢
  obtain ⟨k1, s1⟩ := r1
  have HT8 := Aside0.mk (fun (W : World) (h : Rd W bs g l s1) => Take8_any h)
  simp only
  generalize rNum l s1 1 = r2 at HT8 ⊢
  obtain ⟨t, s2⟩ := r2
  simp only
  have HT2 := Aside0.mk (fun (W : World) (h : Rd W bs g l s2) => Text_any h 24)
  have HT3 := Aside0.mk (fun (W : World) (h : Rd W bs g l s2) => Take16_any h)
  generalize rText l s2 24 = r3 at HT2 ⊢
  obtain ⟨k3, s3⟩ := r3
  generalize rNum l s2 2 = r4 at HT3 ⊢
  obtain ⟨z, s4⟩ := r4
  simp only
  have HT4 := Aside0.mk (fun (W : World) (h : Rd W bs g l s4) => Take16_any h)
  generalize rNum l s4 2 = r5 at HT4 ⊢
  obtain ⟨st, s5⟩ := r5
  simp only
  clear h
  by_cases ht : t = 0
  · have z1 : (t == 0) = true := beq_iff_eq.2 ht
    rw [if_pos ht]
    clear ht
    go_enter Try.func23, Try.ntmps23
    go_wp2_with (first | (go_at_call 24; have _q := HRc; refine (HT2.out _ HRc.out).mono ?_; rintro e w4 ⟨rfl, ho, hr⟩; have HO4 := Aside0.mk (HO3.out.trans ho); have HR4 := Aside0.mk hr; have HC4 := Aside0.mk (blk_only HC3.out ho HN2.out); have HD4 := Aside0.mk (blk_only HD3.out ho HN1.out); obtain ⟨d0, d1, d2, d3, df⟩ := four_cells HC4.out; obtain ⟨e0, e1, e2, e3, ef⟩ := four_cells HD4.out; clear ho hr) | (go_at_call 24; refine HT1.out.mono ?_; rintro e w2 ⟨rfl, ho, hr⟩; have HO2 := Aside0.mk ((HO1.out.trans ho).trans (Only.of_below (below_alloc (Below.refl _ _) (.cells #[.string (strOfNums k1), .string ⟨#[]⟩, .int .i64 0, .int .i64 0] 57)))); have HRb := Aside0.mk (hr.below (below_alloc (Below.refl _ _) (.cells #[.string (strOfNums k1), .string ⟨#[]⟩, .int .i64 0, .int .i64 0] 57))); have HN1 : Aside0 (w.heap.size ≠ g) := ⟨by omega⟩; have hlt0 : w.heap.size < w2.heap.size := Nat.lt_of_lt_of_le (blk_lt HD1.out) ho.size; have hlt1 : g < w2.heap.size := (by omega); have hne1 : w2.heap.size ≠ w.heap.size := (by omega); have hne2 : w.heap.size ≠ w2.heap.size := (by omega); have HN2 : Aside0 (w2.heap.size ≠ g) := ⟨by have := hr.lt; omega⟩; have HD2 := Aside0.mk (blk_below (blk_only HD1.out ho HN1.out) (below_alloc (Below.refl _ _) (.cells #[.string (strOfNums k1), .string ⟨#[]⟩, .int .i64 0, .int .i64 0] 57))); clear ho hr) | (go_at_call 22; refine (HT8.out _ HRb.out).mono ?_; rintro e w3 ⟨rfl, ho, hr⟩; have HO3 := Aside0.mk (HO2.out.trans ho); have HRc := Aside0.mk hr; have HC3 := Aside0.mk (blk_only (blk_new w2 _) ho HN2.out); have HD3 := Aside0.mk (blk_only HD2.out ho HN1.out); clear ho hr))
    exact cell_laid (c := (strOfNums k1, strOfNums k3, 0, 0)) (blk_far HD4.out hne2 1 (.string (strOfNums k3))) (HO4.out.far (Nat.le_of_lt hlt0) 1 _) (HR4.out.far hlt1 1 _) hgw rfl rfl
  · have z1 : (t == 0) = false := beq_eq_false_iff_ne.2 ht
    rw [if_neg ht]
    clear ht
    go_enter Try.func23, Try.ntmps23
    go_wp2_with (first | (go_at_call 25; have _q := HRd; refine (HT4.out _ HRd.out).mono ?_; rintro e w5 ⟨rfl, ho, hr⟩; have HO5 := Aside0.mk (HO4.out.trans ho); have HR5 := Aside0.mk hr; have HC5 := Aside0.mk (blk_only HC4.out ho HN2.out); have HD5 := Aside0.mk (blk_only HD4.out ho HN1.out); obtain ⟨d0, d1, d2, d3, df⟩ := four_cells HC5.out; obtain ⟨e0, e1, e2, e3, ef⟩ := four_cells HD5.out; clear ho hr) | (go_at_call 25; refine (HT3.out _ HRc.out).mono ?_; rintro e w4 ⟨rfl, ho, hr⟩; have hcc := blk_only HC3.out ho HN2.out; obtain ⟨b0, b1, b2, b3, bf⟩ := four_cells hcc; have HO4 := Aside0.mk ((HO3.out.trans ho).far (Nat.le_of_lt hlt0) 2 (.int .i64 z)); have HRd := Aside0.mk (hr.far hlt1 2 (.int .i64 z)); have HC4 : Aside0 ((w4.setCell ⟨w2.heap.size, 2, none⟩ (.int .i64 z)).heap[w2.heap.size]? = some (.cells #[.string (strOfNums k1), .string ⟨#[]⟩, .int .i64 z, .int .i64 0] 57 (0, 0))) := ⟨blk_set hcc 2 _⟩; have HD4 := Aside0.mk (blk_far (blk_only HD3.out ho HN1.out) hne2 2 (.int .i64 z)); clear ho hr hcc) | (go_at_call 24; refine HT1.out.mono ?_; rintro e w2 ⟨rfl, ho, hr⟩; have HO2 := Aside0.mk ((HO1.out.trans ho).trans (Only.of_below (below_alloc (Below.refl _ _) (.cells #[.string (strOfNums k1), .string ⟨#[]⟩, .int .i64 0, .int .i64 0] 57)))); have HRb := Aside0.mk (hr.below (below_alloc (Below.refl _ _) (.cells #[.string (strOfNums k1), .string ⟨#[]⟩, .int .i64 0, .int .i64 0] 57))); have HN1 : Aside0 (w.heap.size ≠ g) := ⟨by omega⟩; have hlt0 : w.heap.size < w2.heap.size := Nat.lt_of_lt_of_le (blk_lt HD1.out) ho.size; have hlt1 : g < w2.heap.size := (by omega); have hne1 : w2.heap.size ≠ w.heap.size := (by omega); have hne2 : w.heap.size ≠ w2.heap.size := (by omega); have HN2 : Aside0 (w2.heap.size ≠ g) := ⟨by have := hr.lt; omega⟩; have HD2 := Aside0.mk (blk_below (blk_only HD1.out ho HN1.out) (below_alloc (Below.refl _ _) (.cells #[.string (strOfNums k1), .string ⟨#[]⟩, .int .i64 0, .int .i64 0] 57))); clear ho hr) | (go_at_call 22; refine (HT8.out _ HRb.out).mono ?_; rintro e w3 ⟨rfl, ho, hr⟩; have HO3 := Aside0.mk (HO2.out.trans ho); have HRc := Aside0.mk hr; have HC3 := Aside0.mk (blk_only (blk_new w2 _) ho HN2.out); have HD3 := Aside0.mk (blk_only HD2.out ho HN1.out); clear ho hr))
    exact cell_laid (c := (strOfNums k1, ⟨#[]⟩, z, st)) (blk_far HD5.out hne2 3 (.int .i64 st)) (HO5.out.far (Nat.le_of_lt hlt0) 3 _) (HR5.out.far hlt1 3 _) hgw rfl rfl
end Go.Proofs.Ytgbcfkcnoncgdaa.Hand
namespace Go.Proofs.Ytgbcfkcnoncgdaa.Hand
open Go.RowKit Go.Proofs.Ytgbcfkcnoncgdaa.Sp Go.Proofs.YtgbcfkcnoncgdaaW.PrintWords Go.Proofs.YtgbcfkcnoncgdaaW.PrintLast Go.Proofs.YtgbcfkcnoncgdaaW.PrintMore
set_option linter.unusedVariables false
abbrev CellP := ByteArray × ByteArray × Int × Int
abbrev KidP := ByteArray × Int
abbrev PageP := Int × List CellP × List KidP × ByteArray × Int
def page0 : PageP := (0, [], [], ⟨#[]⟩, 0)
def cellsK (l : List Int) (s : RS) : Nat → List CellP × RS
  | 0 => ([], s)
  | k + 1 => ((cellsK l s k).1 ++ [(takeC l (cellsK l s k).2).1], (takeC l (cellsK l s k).2).2)
def takeK (l : List Int) (s : RS) : KidP × RS := ((strOfNums (rText l s 24).1, (rNum l (rText l s 24).2 2).1), (rNum l (rText l s 24).2 2).2)
def kidsK (l : List Int) (s : RS) : Nat → List KidP × RS
  | 0 => ([], s)
  | k + 1 => ((kidsK l s k).1 ++ [(takeK l (kidsK l s k).2).1], (takeK l (kidsK l s k).2).2)
theorem cellsK_len (l : List Int) (s : RS) : ∀ k, (cellsK l s k).1.length = k
  | 0 => rfl
  | k + 1 => by rw [cellsK, List.length_append, cellsK_len l s k]; rfl
theorem kidsK_len (l : List Int) (s : RS) : ∀ k, (kidsK l s k).1.length = k
  | 0 => rfl
  | k + 1 => by rw [kidsK, List.length_append, kidsK_len l s k]; rfl
def parseP (l : List Int) : PageP × RS :=
  if (rNum l ⟨0, 0⟩ 1).1 = 1 then ((1, (cellsK l (rNum l (rNum l ⟨0, 0⟩ 1).2 1).2 (rNum l (rNum l ⟨0, 0⟩ 1).2 1).1.toNat).1, [], ⟨#[]⟩, 0), (cellsK l (rNum l (rNum l ⟨0, 0⟩ 1).2 1).2 (rNum l (rNum l ⟨0, 0⟩ 1).2 1).1.toNat).2)
  else if (rNum l ⟨0, 0⟩ 1).1 = 2 then ((2, [], (kidsK l (rNum l (rNum l ⟨0, 0⟩ 1).2 1).2 (rNum l (rNum l ⟨0, 0⟩ 1).2 1).1.toNat).1, ⟨#[]⟩, 0), (kidsK l (rNum l (rNum l ⟨0, 0⟩ 1).2 1).2 (rNum l (rNum l ⟨0, 0⟩ 1).2 1).1.toNat).2)
  else if (rNum l ⟨0, 0⟩ 1).1 = 3 then ((3, [], [], strOfNums (rText l (rNum l ⟨0, 0⟩ 1).2 240).1, (rNum l (rText l (rNum l ⟨0, 0⟩ 1).2 240).2 2).1), (rNum l (rText l (rNum l ⟨0, 0⟩ 1).2 240).2 2).2)
  else (((rNum l ⟨0, 0⟩ 1).1, [], [], ⟨#[]⟩, 0), (rNum l ⟨0, 0⟩ 1).2)
def flatC : List CellP → List Value
  | [] => []
  | c :: r => (cellV c).toList ++ flatC r
def flatK : List KidP → List Value
  | [] => []
  | c :: r => [.string c.1, .int .i64 c.2] ++ flatK r
theorem flatC_snoc (c : CellP) : ∀ l, flatC (l ++ [c]) = flatC l ++ (cellV c).toList
  | [] => by simp [flatC]
  | x :: r => by rw [List.cons_append, flatC, flatC_snoc c r, flatC, List.append_assoc]
theorem flatK_snoc (c : KidP) : ∀ l, flatK (l ++ [c]) = flatK l ++ [.string c.1, .int .i64 c.2]
  | [] => by simp [flatK]
  | x :: r => by rw [List.cons_append, flatK, flatK_snoc c r, flatK, List.append_assoc]
theorem rNum1_range {l : List Int} (hb : isBy l) (s : RS) : 0 ≤ (rNum l s 1).1 ∧ (rNum l s 1).1 ≤ 255 := by
  have h := rBytes_by hb s 1
  unfold rNum
  have h2 := numOf_range (rBytes l s 1).1.length _ h.1 rfl
  simp only
  match hx : (rBytes l s 1).1.length, h.2 with
  | 0, _ => rw [hx] at h2; omega
  | 1, _ => rw [hx] at h2; omega
  | n + 2, h => omega
end Go.Proofs.Ytgbcfkcnoncgdaa.Hand
namespace Go.Proofs.Ytgbcfkcnoncgdaa.Hand
open Go.RowKit Go.Proofs.Ytgbcfkcnoncgdaa.Sp Go.Proofs.YtgbcfkcnoncgdaaW.PrintWords Go.Proofs.YtgbcfkcnoncgdaaW.PrintLast Go.Proofs.YtgbcfkcnoncgdaaW.PrintMore
set_option linter.unusedVariables false
theorem info_cell3 : (Try.prog.info? 57).map (fun i => (i.zero, i.size, i.bytes)) = some (some (.agg cell0), 4, 48) := by kernel_rfl
theorem info_kid3 : (Try.prog.info? 61).map (fun i => (i.zero, i.size, i.bytes)) = some (some (.agg #[.string ⟨#[]⟩, .int .i64 0]), 2, 24) := by kernel_rfl
theorem app_cells {W : World} {base g0 : Nat} {v : Value} {xs : List CellP} {c : CellP} (HO : W.ownsRow base 57 4 v xs.length (flatC xs)) (hblk : W.heap[g0]? = some (.cells (cellV c) 57 (0, 0))) (hbase : base ≤ W.heap.size) (hl : xs.length ≤ 1000) :
    ∃ v1 w1, (Builtin.append_ #[23, 23] 23 #[v, .slice (some ⟨g0, 0, none⟩) 1 1]).run Try.prog W = .ok v1 w1 ∧ w1.ownsRow base 57 4 v1 (xs.length + 1) (flatC (xs ++ [c])) ∧ W.grownBy w1 v.ownBlock ∧ (v1.ownBlock = v.ownBlock ∨ v1.ownBlock = some W.heap.size) := by
  obtain ⟨i, hi, hzz⟩ := Option.map_eq_some_iff.1 info_cell3
  simp only [Prod.mk.injEq] at hzz
  obtain ⟨hz0, hz1, hz2⟩ := hzz
  obtain ⟨v1, w1, hr, h2, h3, _, h5⟩ := run_append_own_at (P := Try.prog) W base 23 23 57 i (.agg cell0) 4 48 Try.underlying23 hi hz0 hz1 hz2 rfl (by omega) v xs.length (flatC xs) HO ⟨g0, 0, none⟩ 1 1 (cellV c).toList rfl (fun j u hu => by rw [add_plain, blk_cell hblk]; simpa using hu)
    (by intro u hu; simp only [cellV, List.mem_cons, List.not_mem_nil, or_false] at hu; rcases hu with rfl | rfl | rfl | rfl <;> rfl) (by simp only [maxLen]; omega) (by omega) hbase
  exact ⟨v1, w1, hr, by rw [flatC_snoc]; exact h2, h3, h5⟩
theorem app_kids {W : World} {base g0 : Nat} {v : Value} {xs : List KidP} {c : KidP} (HO : W.ownsRow base 61 2 v xs.length (flatK xs)) (hblk : W.heap[g0]? = some (.cells #[.string c.1, .int .i64 c.2] 61 (0, 0))) (hbase : base ≤ W.heap.size) (hl : xs.length ≤ 1000) :
    ∃ v1 w1, (Builtin.append_ #[24, 24] 24 #[v, .slice (some ⟨g0, 0, none⟩) 1 1]).run Try.prog W = .ok v1 w1 ∧ w1.ownsRow base 61 2 v1 (xs.length + 1) (flatK (xs ++ [c])) ∧ W.grownBy w1 v.ownBlock ∧ (v1.ownBlock = v.ownBlock ∨ v1.ownBlock = some W.heap.size) := by
  obtain ⟨i, hi, hzz⟩ := Option.map_eq_some_iff.1 info_kid3
  simp only [Prod.mk.injEq] at hzz
  obtain ⟨hz0, hz1, hz2⟩ := hzz
  obtain ⟨v1, w1, hr, h2, h3, _, h5⟩ := run_append_own_at (P := Try.prog) W base 24 24 61 i (.agg #[.string ⟨#[]⟩, .int .i64 0]) 2 24 Try.underlying24 hi hz0 hz1 hz2 rfl (by omega) v xs.length (flatK xs) HO ⟨g0, 0, none⟩ 1 1 [.string c.1, .int .i64 c.2] rfl (fun j u hu => by rw [add_plain, blk_cell hblk]; simpa using hu)
    (by intro u hu; simp only [List.mem_cons, List.not_mem_nil, or_false] at hu; rcases hu with rfl | rfl <;> rfl) (by simp only [maxLen]; omega) (by omega) hbase
  exact ⟨v1, w1, hr, by rw [flatK_snoc]; exact h2, h3, h5⟩
def s57 (c : CellP) : S57 := ⟨c.1, c.2.1, c.2.2.1, c.2.2.2⟩
def s61 (c : KidP) : S61 := ⟨c.1, c.2⟩
end Go.Proofs.Ytgbcfkcnoncgdaa.Hand
namespace Go.Proofs.Ytgbcfkcnoncgdaa.Pure
open Go.Proofs.Ytgbcfkcnoncgdaa.Hand
open Go.RowKit Go.Proofs.Ytgbcfkcnoncgdaa.Sp Go.Proofs.YtgbcfkcnoncgdaaW.PrintWords Go.Proofs.YtgbcfkcnoncgdaaW.PrintLast
def four (c : Int) : List Int := [c / 16777216 % 256, c / 65536 % 256, c / 256 % 256, c % 256]
def sealL (l : List Int) : List Int := l ++ four (Crc.crc l)
theorem four_length (c : Int) : (four c).length = 4 := rfl
theorem sealL_length (l : List Int) : (sealL l).length = l.length + 4 := by simp [sealL, four_length]
theorem four_bytes (c : Int) : (four c).all isB = true := by
  simp only [four, List.all_cons, List.all_nil, isB, Bool.and_true, Bool.and_eq_true, decide_eq_true_eq]
  omega
theorem sealL_bytes {l : List Int} (h : l.all isB = true) : (sealL l).all isB = true := by
  unfold sealL
  rw [List.all_append, h, four_bytes]; rfl
theorem wrap_in {x : Int} (h0 : -9223372036854775808 ≤ x) (h1 : x ≤ 9223372036854775807) : wrap64 x = x := by unfold wrap64; omega
theorem seal_f {l : List Int} (hB : l.all isB = true) (hl : l.length ≤ 100000000) : sum_Seal.f l = some (sealL l) := by
  have e : sum_Of.f l = some (Crc.crc l) := by unfold sum_Of.f; rw [if_pos hB]
  have hw : wrap64 ((l.length : Int) + 4) = (l.length : Int) + 4 := wrap_in (by omega) (by omega)
  unfold sum_Seal.f
  rw [e]
  generalize hc : Crc.crc l = c
  simp only [Option.bind_some, List.nil_append, hw, List.length_nil, List.length_cons]
  have h1 : (0 : Int) ≤ (l.length : Int) + 4 := by omega
  have h2 : ((l.length : Int) + 4).toNat ≤ 281474976710656 := by omega
  have h3 : 0 + l.length < 140737488355328 := by omega
  have h4 : l.length + (0 + 1 + 1 + 1 + 1) < 140737488355328 := by omega
  rw [if_pos h1, if_pos h2, if_pos h3, if_pos h4]
  unfold sealL four
  rw [hc]
theorem all_take {l : List Int} (h : l.all isB = true) (n : Nat) : (l.take n).all isB = true := by
  rw [List.all_eq_true] at h ⊢
  exact fun x hx => h x (List.mem_of_mem_take hx)
theorem bytesOf_all (s : ByteArray) : (bytesOf s).all isB = true := by
  rw [List.all_eq_true]
  intro x hx
  unfold bytesOf at hx
  obtain ⟨b, _, rfl⟩ := List.mem_map.1 hx
  rw [isB_iff]
  have := b.toNat_lt
  omega
theorem str_bytes (s : ByteArray) : strOfNums (bytesOf s) = s := by
  unfold bytesOf strOfNums
  rw [List.map_map]
  have : ((fun n : Int => UInt8.ofNat n.toNat) ∘ fun b : UInt8 => (b.toNat : Int)) = id := by
    funext b
    simp
  rw [this, List.map_id]
theorem data_inj {a b : ByteArray} (h : a.data.toList = b.data.toList) : a = b := by
  cases a; cases b
  simp only at h
  congr 1
  exact Array.toList_inj.1 h
theorem bytesOf_inj {a b : ByteArray} (h : bytesOf a = bytesOf b) : a = b := by
  rw [← str_bytes a, ← str_bytes b, h]
theorem bytes_str {l : List Int} (h : l.all isB = true) : bytesOf (strOfNums l) = l := by
  unfold bytesOf strOfNums
  simp only [List.map_map]
  rw [List.all_eq_true] at h
  conv => rhs; rw [← List.map_id l]
  refine List.map_congr_left fun x hx => ?_
  have := (isB_iff x).1 (h x hx)
  simp only [Function.comp, id]
  rw [UInt8.toNat_ofNat']
  omega
theorem toList_inj {a b : ByteArray} : a.toList = b.toList ↔ a = b := by
  rw [ByteArray.toList_eq, ByteArray.toList_eq]
  exact ⟨data_inj, fun h => by rw [h]⟩
end Go.Proofs.Ytgbcfkcnoncgdaa.Pure
namespace Go.Proofs.Ytgbcfkcnoncgdaa.Pure
open Go.Proofs.Ytgbcfkcnoncgdaa.Hand
open Go.RowKit Go.Proofs.Ytgbcfkcnoncgdaa.Sp Go.Proofs.YtgbcfkcnoncgdaaW.PrintWords Go.Proofs.YtgbcfkcnoncgdaaW.PrintLast
def keyOk (s : ByteArray) : Bool := decide (0 < s.size ∧ s.size ≤ 24)
def numOk (n : Int) : Bool := decide (2 ≤ n ∧ n ≤ 511)
def less (a b : ByteArray) : Bool := Op.bytesLess a.toList b.toList
def valOk (v : ByteArray) (n m : Int) : Bool := (decide (n = 0 ∧ m = 0) && decide (v.size ≤ 24)) || (decide (v.size = 0) && decide (25 ≤ n ∧ n ≤ 400) && numOk m)
def cellsOk : ByteArray → List S57 → Bool
  | _, [] => true
  | p, c :: r => keyOk c.f0 && less p c.f0 && valOk c.f1 c.f2 c.f3 && cellsOk c.f0 r
def kidsOk : ByteArray → List S61 → Bool
  | _, [] => true
  | p, c :: r => keyOk c.f0 && less p c.f0 && numOk c.f1 && kidsOk c.f0 r
def e0 : ByteArray := ⟨#[]⟩
def rightB (kind : Int) (cells : List S57) (kids : List S61) (piece : ByteArray) (next : Int) : Bool :=
  if kind = 1 then decide (piece.size = 0) && decide (next = 0) && decide (kids.length = 0) && decide (cells.length ≤ 4) && cellsOk e0 cells
  else if kind = 2 then decide (piece.size = 0) && decide (next = 0) && decide (cells.length = 0) && decide (2 ≤ kids.length ∧ kids.length ≤ 6) && kidsOk e0 kids
  else if kind = 3 then decide (cells.length = 0) && decide (kids.length = 0) && decide (1 ≤ piece.size ∧ piece.size ≤ 240) && (decide (next = 0) || numOk next)
  else false
theorem nil_iff (s : ByteArray) : s.toList = [] ↔ s.size = 0 := by
  rw [ByteArray.toList_eq, ← data_length, List.length_eq_zero_iff]
theorem number_f (n : Int) : page_number.f n = some (numOk n) := by
  unfold page_number.f numOk
  by_cases h : n ≥ 2
  · rw [if_pos h]; congr 1; rw [decide_eq_decide]; omega
  · rw [if_neg h]; congr 1; symm; rw [decide_eq_false_iff_not]; omega
theorem key_f (s : ByteArray) : ∃ m, pair_Key.f s = some m ∧ (m = 0 ↔ keyOk s = true) := by
  unfold pair_Key.f keyOk
  by_cases h : s.toList = []
  · refine ⟨1, by rw [if_pos h], ?_⟩
    have := (nil_iff s).1 h
    rw [decide_eq_true_eq]; omega
  · have h0 : s.size ≠ 0 := fun e => h ((nil_iff s).2 e)
    by_cases h2 : (s.size : Int) > 24
    · refine ⟨4, by rw [if_neg h, if_pos h2], ?_⟩
      rw [decide_eq_true_eq]; omega
    · refine ⟨0, by rw [if_neg h, if_neg h2], ?_⟩
      rw [decide_eq_true_eq]; omega
theorem cell_f (a v : ByteArray) (n m : Int) : page_cell.f a v n m = some (valOk v n m) := by
  unfold page_cell.f valOk
  have hv := nil_iff v
  rw [number_f]
  simp only [Option.bind_some]
  by_cases h1 : n = 0 <;> by_cases h2 : m = 0 <;> by_cases h3 : v.toList = [] <;> by_cases h4 : n > 24 <;> by_cases h5 : n ≤ 400 <;> by_cases h6 : v.size ≤ 24 <;>
    simp only [h1, h2, h3, h4, h5, if_true, if_false] <;> simp only [h3, true_iff, false_iff] at hv <;> simp_all [numOk] <;> omega
theorem rd57 {l : List S57} {i : Nat} (h : i < l.length) : rd_T57 l (i : Int) = l[i] := by unfold rd_T57; simp [h]
theorem rd61 {l : List S61} {i : Nat} (h : i < l.length) : rd_T61 l (i : Int) = l[i] := by unfold rd_T61; simp [h]
theorem rd64 {l : List S64} {i : Nat} (h : i < l.length) : rd_T64 l (i : Int) = l[i] := by unfold rd_T64; simp [h]
theorem rd65 {l : List S65} {i : Nat} (h : i < l.length) : rd_T65 l (i : Int) = l[i] := by unfold rd_T65; simp [h]
theorem cells_loop (l : List S57) (hl : l.length ≤ 1000000) (d : Nat) : ∀ (k : Nat) (p : ByteArray) (i : Nat), i ≤ l.length → l.length - i = d → d < k →
    page_cells.l0 k l p l (l.length : Int) (i : Int) = some (cellsOk p (l.drop i) && decide (l.length ≤ 4)) := by
  induction d with
  | zero =>
    intro k p i hi hd hk
    obtain ⟨k, rfl⟩ : ∃ m, k = m + 1 := ⟨k - 1, by omega⟩
    simp only [page_cells.l0]
    rw [if_neg (by omega), List.drop_of_length_le (by omega)]
    simp only [cellsOk, Bool.true_and]
    congr 1; rw [decide_eq_decide]; omega
  | succ d ih =>
    intro k p i hi hd hk
    obtain ⟨k, rfl⟩ : ∃ m, k = m + 1 := ⟨k - 1, by omega⟩
    have hia : i < l.length := by omega
    simp only [page_cells.l0]
    rw [if_pos (by omega), if_pos (by omega), if_pos (by omega), rd57 hia, List.drop_eq_getElem_cons hia]
    obtain ⟨m, hm, hm2⟩ := key_f l[i].f0
    rw [hm, cell_f]
    simp only [Option.bind_some, cellsOk]
    have hlt : (Op.bytesLess p.toList l[i].f0.toList = true) ↔ less p l[i].f0 = true := Iff.rfl
    by_cases h1 : m = 0
    · rw [if_pos h1, hm2.1 h1]
      by_cases h2 : less p l[i].f0 = true
      · rw [if_pos (hlt.2 h2), h2]
        by_cases h3 : valOk l[i].f1 l[i].f2 l[i].f3 = true
        · rw [if_pos h3, h3, wrap_in (by omega) (by omega), show (i : Int) + 1 = ((i + 1 : Nat) : Int) by omega, ih k _ (i + 1) (by omega) (by omega) (by omega)]
          simp
        · rw [if_neg h3, Bool.eq_false_iff.2 h3]; simp
      · rw [if_neg (fun h => h2 (hlt.1 h)), Bool.eq_false_iff.2 h2]; simp
    · have : keyOk l[i].f0 = false := by
        rw [← Bool.not_eq_true]; exact fun h => h1 (hm2.2 h)
      rw [if_neg h1, this]; simp
theorem cells_f (l : List S57) (hl : l.length ≤ 1000000) (k : Nat) (hk : l.length < k) : page_cells.f k l = some (cellsOk e0 l && decide (l.length ≤ 4)) := by
  have := cells_loop l hl l.length k e0 0 (by omega) (by omega) hk
  simpa [page_cells.f, e0] using this
theorem kids_loop (l : List S61) (hl : l.length ≤ 1000000) (d : Nat) : ∀ (k : Nat) (p : ByteArray) (i : Nat), i ≤ l.length → l.length - i = d → d < k →
    page_kids.l0 k l p l (l.length : Int) (i : Int) = some (kidsOk p (l.drop i) && decide (2 ≤ l.length ∧ l.length ≤ 6)) := by
  induction d with
  | zero =>
    intro k p i hi hd hk
    obtain ⟨k, rfl⟩ : ∃ m, k = m + 1 := ⟨k - 1, by omega⟩
    simp only [page_kids.l0]
    rw [if_neg (by omega), List.drop_of_length_le (by omega)]
    simp only [kidsOk, Bool.true_and]
    by_cases h : (l.length : Int) ≥ 2
    · rw [if_pos h]; congr 1; rw [decide_eq_decide]; omega
    · rw [if_neg h]; congr 1; symm; rw [decide_eq_false_iff_not]; omega
  | succ d ih =>
    intro k p i hi hd hk
    obtain ⟨k, rfl⟩ : ∃ m, k = m + 1 := ⟨k - 1, by omega⟩
    have hia : i < l.length := by omega
    simp only [page_kids.l0]
    rw [if_pos (by omega), if_pos (by omega), if_pos (by omega), rd61 hia, List.drop_eq_getElem_cons hia]
    obtain ⟨m, hm, hm2⟩ := key_f l[i].f0
    rw [hm, number_f]
    simp only [Option.bind_some, kidsOk]
    have hlt : (Op.bytesLess p.toList l[i].f0.toList = true) ↔ less p l[i].f0 = true := Iff.rfl
    by_cases h1 : m = 0
    · rw [if_pos h1, hm2.1 h1]
      by_cases h2 : less p l[i].f0 = true
      · rw [if_pos (hlt.2 h2), h2]
        by_cases h3 : numOk l[i].f1 = true
        · rw [if_pos h3, h3, wrap_in (by omega) (by omega), show (i : Int) + 1 = ((i + 1 : Nat) : Int) by omega, ih k _ (i + 1) (by omega) (by omega) (by omega)]
          simp
        · rw [if_neg h3, Bool.eq_false_iff.2 h3]; simp
      · rw [if_neg (fun h => h2 (hlt.1 h)), Bool.eq_false_iff.2 h2]; simp
    · have : keyOk l[i].f0 = false := by
        rw [← Bool.not_eq_true]; exact fun h => h1 (hm2.2 h)
      rw [if_neg h1, this]; simp
theorem kids_f (l : List S61) (hl : l.length ≤ 1000000) (k : Nat) (hk : l.length < k) : page_kids.f k l = some (kidsOk e0 l && decide (2 ≤ l.length ∧ l.length ≤ 6)) := by
  have := kids_loop l hl l.length k e0 0 (by omega) (by omega) hk
  simpa [page_kids.f, e0] using this
theorem right_f (kind : Int) (cells : List S57) (kids : List S61) (piece : ByteArray) (next : Int) (hc : cells.length ≤ 1000000) (hd : kids.length ≤ 1000000) (k : Nat) (hk : cells.length + kids.length + 2 < k) :
    page_Right.f k kind cells kids piece next = some (rightB kind cells kids piece next) := by
  obtain ⟨k, rfl⟩ : ∃ m, k = m + 1 := ⟨k - 1, by omega⟩
  have hv := nil_iff piece
  unfold page_Right.f rightB
  simp only [page_Right.j0]
  rw [cells_f cells hc k (by omega), kids_f kids hd k (by omega), number_f, wrap_in (by omega) (by omega)]
  simp only [Option.bind_some]
  generalize cellsOk e0 cells = C
  generalize kidsOk e0 kids = D
  simp only [hv]
  clear hv hc hd hk
  generalize numOk next = N
  generalize piece.size = z
  generalize cells.length = a
  generalize kids.length = b
  have h00 : ((a : Int) + (b : Int) = 0) ↔ (a = 0 ∧ b = 0) := by omega
  have ha : ((a : Int) = 0) ↔ a = 0 := by omega
  have hb : ((b : Int) = 0) ↔ b = 0 := by omega
  have hz : ((z : Int) ≤ 240) ↔ z ≤ 240 := by omega
  simp only [h00, ha, hb, hz]
  clear h00 ha hb hz
  by_cases h1 : kind = 1
  · subst h1
    by_cases h3 : z = 0 <;> by_cases h4 : next = 0 <;> by_cases h5 : b = 0 <;> by_cases h6 : a ≤ 4 <;> cases C <;> simp [h3, h4, h5, h6]
  · by_cases h2 : kind = 2
    · subst h2
      by_cases h3 : z = 0 <;> by_cases h4 : next = 0 <;> by_cases h5 : a = 0 <;> cases D <;> simp [h3, h4, h5]
    · by_cases h2' : kind = 3
      · subst h2'
        by_cases h3 : z = 0
        · by_cases h4 : next = 0 <;> by_cases h5 : a = 0 <;> by_cases h6 : b = 0 <;> simp [h3, h4, h5, h6]
        · have h8 : 1 ≤ z := by omega
          by_cases h4 : next = 0 <;> by_cases h5 : a = 0 <;> by_cases h6 : b = 0 <;> by_cases h7 : z ≤ 240 <;> simp [h3, h4, h5, h6, h7, h8]
      · by_cases h3 : z = 0 <;> simp [h1, h2, h2', h3]
end Go.Proofs.Ytgbcfkcnoncgdaa.Pure
namespace Go.Proofs.Ytgbcfkcnoncgdaa.Pure
open Go.Proofs.Ytgbcfkcnoncgdaa.Hand
open Go.RowKit Go.Proofs.Ytgbcfkcnoncgdaa.Sp Go.Proofs.YtgbcfkcnoncgdaaW.PrintWords Go.Proofs.YtgbcfkcnoncgdaaW.PrintLast Go.Proofs.YtgbcfkcnoncgdaaW.PrintMore
def num16 (v : Int) : List Int := [v / 256 % 256, v % 256]
def textL (s : ByteArray) : List Int := num16 (s.size : Int) ++ bytesOf s
def cellL (c : S57) : List Int := textL c.f0 ++ (if c.f3 = 0 then [0] ++ textL c.f1 else [1] ++ num16 c.f2 ++ num16 c.f3)
def kidL (c : S61) : List Int := textL c.f0 ++ num16 c.f1
def bodyL (kind : Int) (cells : List S57) (kids : List S61) (piece : ByteArray) (next : Int) : List Int :=
  (kind % 256) :: (if kind = 1 then ((cells.length : Int) % 256) :: cells.flatMap cellL else if kind = 2 then ((kids.length : Int) % 256) :: kids.flatMap kidL else if kind = 3 then textL piece ++ num16 next else [])
def padL (l : List Int) : List Int := l ++ List.replicate (252 - l.length) 0
def encL (kind : Int) (cells : List S57) (kids : List S61) (piece : ByteArray) (next : Int) : List Int := sealL (padL (bodyL kind cells kids piece next))
theorem num16_length (v : Int) : (num16 v).length = 2 := rfl
theorem textL_length (s : ByteArray) : (textL s).length = 2 + s.size := by unfold textL; rw [List.length_append, bytesOf_length, num16_length]
theorem num16_all (v : Int) : (num16 v).all isB = true := by
  simp only [num16, List.all_cons, List.all_nil, isB, Bool.and_true, Bool.and_eq_true, decide_eq_true_eq]
  omega
theorem textL_all (s : ByteArray) : (textL s).all isB = true := by unfold textL; rw [List.all_append, num16_all, bytesOf_all]; rfl
theorem cellL_all (c : S57) : (cellL c).all isB = true := by
  unfold cellL
  split <;> simp only [List.all_append, textL_all, num16_all] <;> rfl
theorem kidL_all (c : S61) : (kidL c).all isB = true := by unfold kidL; rw [List.all_append, num16_all, textL_all]; rfl
theorem flat_all {α : Type} (f : α → List Int) (hf : ∀ x, (f x).all isB = true) (l : List α) : (l.flatMap f).all isB = true := by
  induction l with
  | nil => rfl
  | cons x l ih => rw [List.flatMap_cons, List.all_append, hf, ih]; rfl
theorem byte_all (v : Int) : isB (v % 256) = true := by
  simp only [isB, Bool.and_eq_true, decide_eq_true_eq]; omega
theorem bodyL_all (kind : Int) (cells : List S57) (kids : List S61) (piece : ByteArray) (next : Int) : (bodyL kind cells kids piece next).all isB = true := by
  unfold bodyL
  rw [List.all_cons, byte_all]
  split
  · rw [List.all_cons, byte_all, flat_all _ cellL_all]; rfl
  · split
    · rw [List.all_cons, byte_all, flat_all _ kidL_all]; rfl
    · split
      · rw [List.all_append, num16_all, textL_all]; rfl
      · rfl
theorem padL_all {l : List Int} (h : l.all isB = true) : (padL l).all isB = true := by
  unfold padL
  rw [List.all_append, h, Bool.true_and, List.all_eq_true]
  intro x hx
  rw [List.eq_of_mem_replicate hx]; rfl
theorem padL_length (l : List Int) (h : l.length ≤ 252) : (padL l).length = 252 := by
  unfold padL
  rw [List.length_append, List.length_replicate]; omega
theorem valOk_len {v : ByteArray} {n m : Int} (h : valOk v n m = true) : v.size ≤ 24 := by
  unfold valOk at h
  simp only [Bool.or_eq_true, Bool.and_eq_true, decide_eq_true_eq] at h
  omega
theorem keyOk_len {v : ByteArray} (h : keyOk v = true) : v.size ≤ 24 := by
  unfold keyOk at h
  simp only [decide_eq_true_eq] at h
  omega
theorem cellL_len {c : S57} (h : keyOk c.f0 = true) (h2 : valOk c.f1 c.f2 c.f3 = true) : (cellL c).length ≤ 53 := by
  have := keyOk_len h
  have := valOk_len h2
  unfold cellL
  split <;> simp only [List.length_append, textL_length, num16_length, List.length_cons, List.length_nil] <;> omega
theorem kidL_len {c : S61} (h : keyOk c.f0 = true) : (kidL c).length ≤ 28 := by
  have := keyOk_len h
  unfold kidL
  simp only [List.length_append, textL_length, num16_length]; omega
theorem cells_len : ∀ (l : List S57) (p : ByteArray), cellsOk p l = true → (l.flatMap cellL).length ≤ 53 * l.length
  | [], _, _ => by simp
  | c :: l, p, h => by
    simp only [cellsOk, Bool.and_eq_true] at h
    have h1 := cells_len l _ h.2
    have h2 := cellL_len h.1.1.1 h.1.2
    rw [List.flatMap_cons, List.length_append, List.length_cons]
    omega
theorem kids_len : ∀ (l : List S61) (p : ByteArray), kidsOk p l = true → (l.flatMap kidL).length ≤ 28 * l.length
  | [], _, _ => by simp
  | c :: l, p, h => by
    simp only [kidsOk, Bool.and_eq_true] at h
    have h1 := kids_len l _ h.2
    have h2 := kidL_len h.1.1.1
    rw [List.flatMap_cons, List.length_append, List.length_cons]
    omega
theorem body_len {kind : Int} {cells : List S57} {kids : List S61} {piece : ByteArray} {next : Int} (h : rightB kind cells kids piece next = true) : (bodyL kind cells kids piece next).length ≤ 252 := by
  unfold rightB at h
  unfold bodyL
  split at h
  · rename_i e
    simp only [Bool.and_eq_true, decide_eq_true_eq] at h
    have := cells_len cells _ h.2
    rw [if_pos e, List.length_cons, List.length_cons]
    omega
  · rename_i e1
    rw [if_neg e1]
    split at h
    · rename_i e
      simp only [Bool.and_eq_true, decide_eq_true_eq] at h
      have := kids_len kids _ h.2
      rw [if_pos e, List.length_cons, List.length_cons]
      omega
    · rename_i e2
      rw [if_neg e2]
      split at h
      · rename_i e
        simp only [Bool.and_eq_true, decide_eq_true_eq] at h
        rw [if_pos e, List.length_cons, List.length_append, textL_length, num16_length]
        omega
      · cases h
theorem shr8 (v : Int) : shr .i64 v 8 = v / 256 := by
  unfold shr
  show v / 2 ^ 8 = v / 256
  rfl
theorem shr0 (v : Int) : shr .i64 v 0 = v := by
  unfold shr
  show v / 2 ^ 0 = v
  omega
theorem put16_f (l : List Int) (v : Int) (hl : l.length ≤ 1000000) (k : Nat) (hk : 3 < k) : fix_Put16.f k l v = some (l ++ num16 v) := by
  obtain ⟨k, rfl⟩ : ∃ m, k = m + 3 := ⟨k - 3, by omega⟩
  unfold fix_Put16.f fix_put.f
  have hw : wrap64 ((l.length : Int) + 2) = (l.length : Int) + 2 := wrap_in (by omega) (by omega)
  have w1 : wrap64 (2 - 1) = 1 := by rw [wrap_in (by omega) (by omega)]; rfl
  have w2 : wrap64 (8 * 1) = 8 := by rw [wrap_in (by omega) (by omega)]; rfl
  have w3 : wrap64 (1 - 1) = 0 := by rw [wrap_in (by omega) (by omega)]; rfl
  have w4 : wrap64 (8 * 0) = 0 := by rw [wrap_in (by omega) (by omega)]; rfl
  have w5 : wrap64 (0 - 1) = -1 := by rw [wrap_in (by omega) (by omega)]; rfl
  rw [hw, w1]
  simp only [fix_put.l0]
  rw [w2, w3, w4, w5, shr8, shr0]
  have g1 : (0 : Int) ≤ (l.length : Int) + 2 := by omega
  have g2 : ((l.length : Int) + 2).toNat ≤ 281474976710656 := by omega
  have g3 : ([] : List Int).length + l.length < 140737488355328 := by simp; omega
  rw [if_pos g1, if_pos g2]
  rw [Option.bind_some, if_pos g3, if_pos (by decide), if_pos (by decide), if_pos (by simp; omega), if_pos (by decide), if_pos (by decide), if_pos (by simp; omega), if_neg (by decide)]
  rw [Option.bind_some]
  simp [num16]
theorem extract_all (s : ByteArray) : s.extract 0 s.size = s := by
  apply bytesOf_inj
  unfold bytesOf
  rw [ByteArray.data_extract, Array.toList_extract]
  simp
  exact List.take_of_length_le (Nat.le_of_eq (by rw [List.length_map, data_length]))
theorem putText_f (l : List Int) (s : ByteArray) (hl : l.length ≤ 1000000) (hs : s.size ≤ 65535) (k : Nat) (hk : 3 < k) : fix_PutText.f k l s = some (l ++ textL s) := by
  unfold fix_PutText.f
  have hm : mn (s.size : Int) 65535 = (s.size : Int) := by unfold mn; rw [if_neg (by omega)]
  rw [hm, if_pos (by omega), if_pos (by omega), Int.toNat_natCast, extract_all, put16_f l _ hl k hk]
  rw [Option.bind_some, if_pos (by rw [List.length_append, num16_length]; omega)]
  unfold textL
  rw [List.append_assoc]
theorem putCell_f (l : List Int) (c : S57) (hl : l.length ≤ 500000) (h0 : c.f0.size ≤ 24) (h1 : c.f1.size ≤ 24) (k : Nat) (hk : 3 < k) : page_putCell.f k l c.f0 c.f1 c.f2 c.f3 = some (l ++ cellL c) := by
  unfold page_putCell.f
  have hx := textL_length c.f0
  rw [putText_f l c.f0 (by omega) (by omega) k hk, Option.bind_some]
  unfold cellL
  by_cases h : c.f3 = 0
  · rw [if_pos h, if_pos (by rw [List.length_append]; omega), putText_f _ c.f1 (by rw [List.length_append, List.length_append]; simp; omega) (by omega) k hk, Option.bind_some, if_pos h]
    simp [List.append_assoc]
  · rw [if_neg h, if_pos (by rw [List.length_append]; omega), put16_f _ _ (by rw [List.length_append, List.length_append]; simp; omega) k hk, Option.bind_some, put16_f _ _ (by simp only [List.length_append, List.length_cons, List.length_nil, num16_length]; omega) k hk, Option.bind_some, if_neg h]
    simp [List.append_assoc]
theorem pad_seal (x : List Int) (hx : x.all isB = true) (hl : x.length ≤ 252) :
    (if 0 ≤ (wrap64 (252 - (x.length : Int))) then (if x.length + (wrap64 (252 - (x.length : Int)) : Int).toNat < 140737488355328 then ((sum_Seal.f (x ++ List.replicate (wrap64 (252 - (x.length : Int)) : Int).toNat 0)).bind fun t185 => (some (t185, (0 : Int)))) else (none)) else (none)) = some (sealL (padL x), 0) := by
  have hw : wrap64 (252 - (x.length : Int)) = 252 - (x.length : Int) := wrap_in (by omega) (by omega)
  have hn : (252 - (x.length : Int)).toNat = 252 - x.length := by omega
  rw [hw, if_pos (by omega), hn, if_pos (by omega)]
  have hp : x ++ List.replicate (252 - x.length) 0 = padL x := rfl
  rw [hp, seal_f (padL_all hx) (by rw [padL_length x hl]; omega), Option.bind_some]
theorem enc_cells (cells : List S57) (hc : cells.length ≤ 4) (d : Nat) : ∀ (k : Nat) (x : List Int) (p : ByteArray) (i : Nat), i ≤ cells.length → cells.length - i = d → d + 4 < k → cellsOk p (cells.drop i) = true →
    x.all isB = true → x.length + ((cells.drop i).flatMap cellL).length ≤ 252 → page_Encode.l0 k x cells (cells.length : Int) (i : Int) = some (sealL (padL (x ++ (cells.drop i).flatMap cellL)), 0) := by
  induction d with
  | zero =>
    intro k x p i hi hd hk ho hx hl
    obtain ⟨k, rfl⟩ : ∃ m, k = m + 1 := ⟨k - 1, by omega⟩
    simp only [page_Encode.l0]
    have hdr : cells.drop i = [] := List.drop_of_length_le (by omega)
    rw [hdr] at hl ⊢
    rw [if_neg (by omega)]
    simp only [List.flatMap_nil, List.append_nil] at hl ⊢
    exact pad_seal x hx hl
  | succ d ih =>
    intro k x p i hi hd hk ho hx hl
    obtain ⟨k, rfl⟩ : ∃ m, k = m + 1 := ⟨k - 1, by omega⟩
    have hia : i < cells.length := by omega
    simp only [page_Encode.l0]
    rw [if_pos (by omega), if_pos (by omega), if_pos (by omega), rd57 hia]
    rw [List.drop_eq_getElem_cons hia] at ho hl ⊢
    simp only [cellsOk, Bool.and_eq_true] at ho
    rw [List.flatMap_cons, List.length_append] at hl
    rw [putCell_f x cells[i] (by omega) (keyOk_len ho.1.1.1) (valOk_len ho.1.2) k (by omega), Option.bind_some, wrap_in (by omega) (by omega), show (i : Int) + 1 = ((i + 1 : Nat) : Int) by omega]
    rw [ih k _ _ (i + 1) (by omega) (by omega) (by omega) ho.2 (by rw [List.all_append, hx, cellL_all]; rfl) (by rw [List.length_append]; omega), List.flatMap_cons, List.append_assoc]
theorem enc_kids (kids : List S61) (hc : kids.length ≤ 6) (d : Nat) : ∀ (k : Nat) (x : List Int) (p : ByteArray) (i : Nat), i ≤ kids.length → kids.length - i = d → d + 4 < k → kidsOk p (kids.drop i) = true →
    x.all isB = true → x.length + ((kids.drop i).flatMap kidL).length ≤ 252 → page_Encode.l1 k x kids (kids.length : Int) (i : Int) = some (sealL (padL (x ++ (kids.drop i).flatMap kidL)), 0) := by
  induction d with
  | zero =>
    intro k x p i hi hd hk ho hx hl
    obtain ⟨k, rfl⟩ : ∃ m, k = m + 1 := ⟨k - 1, by omega⟩
    simp only [page_Encode.l1]
    have hdr : kids.drop i = [] := List.drop_of_length_le (by omega)
    rw [hdr] at hl ⊢
    rw [if_neg (by omega)]
    simp only [List.flatMap_nil, List.append_nil] at hl ⊢
    exact pad_seal x hx hl
  | succ d ih =>
    intro k x p i hi hd hk ho hx hl
    obtain ⟨k, rfl⟩ : ∃ m, k = m + 1 := ⟨k - 1, by omega⟩
    have hia : i < kids.length := by omega
    simp only [page_Encode.l1]
    rw [if_pos (by omega), if_pos (by omega), if_pos (by omega), rd61 hia]
    rw [List.drop_eq_getElem_cons hia] at ho hl ⊢
    simp only [kidsOk, Bool.and_eq_true] at ho
    rw [List.flatMap_cons, List.length_append] at hl
    have hkl := keyOk_len ho.1.1.1
    have htl := textL_length kids[i].f0
    rw [putText_f x _ (by omega) (by omega) k (by omega), Option.bind_some, put16_f _ _ (by rw [List.length_append]; omega) k (by omega), Option.bind_some, wrap_in (by omega) (by omega), show (i : Int) + 1 = ((i + 1 : Nat) : Int) by omega]
    have hkk : x ++ textL kids[i].f0 ++ num16 kids[i].f1 = x ++ kidL kids[i] := by unfold kidL; rw [List.append_assoc]
    rw [hkk, ih k _ _ (i + 1) (by omega) (by omega) (by omega) ho.2 (by rw [List.all_append, hx, kidL_all]; rfl) (by rw [List.length_append]; omega), List.flatMap_cons, List.append_assoc]
theorem encode_f (kind : Int) (cells : List S57) (kids : List S61) (piece : ByteArray) (next : Int) (hc : cells.length ≤ 1000000) (hd : kids.length ≤ 1000000) (k : Nat) (hk : cells.length + kids.length + 20 < k) :
    page_Encode.f k kind cells kids piece next = some (if rightB kind cells kids piece next = true then (encL kind cells kids piece next, 0) else ([], 1)) := by
  unfold page_Encode.f
  rw [right_f kind cells kids piece next hc hd k (by omega), Option.bind_some]
  by_cases h : rightB kind cells kids piece next = true
  · rw [if_pos h, if_pos h, Option.bind_some]
    have hlen := body_len h
    have hall := bodyL_all kind cells kids piece next
    unfold encL
    unfold rightB at h
    unfold bodyL at hlen hall ⊢
    by_cases h1 : kind = 1
    · rw [if_pos h1] at h hlen hall ⊢
      simp only [Bool.and_eq_true, decide_eq_true_eq] at h
      rw [if_pos h1, if_pos (by simp)]
      have := enc_cells cells h.1.2 cells.length k ([kind % 256] ++ [(cells.length : Int) % 256]) e0 0 (by omega) (by omega) (by omega) h.2
        (by rw [List.all_append, List.all_cons, List.all_cons, byte_all, byte_all]; rfl) (by simp only [List.length_append, List.length_cons, List.length_nil, List.drop_zero] at hlen ⊢; omega)
      rw [List.drop_zero] at this
      exact this
    · rw [if_neg h1] at h hlen hall ⊢
      rw [if_neg h1]
      by_cases h2 : kind = 2
      · rw [if_pos h2] at h hlen hall ⊢
        simp only [Bool.and_eq_true, decide_eq_true_eq] at h
        rw [if_pos h2, if_pos (by simp)]
        have := enc_kids kids h.1.2.2 kids.length k ([kind % 256] ++ [(kids.length : Int) % 256]) e0 0 (by omega) (by omega) (by omega) h.2
          (by rw [List.all_append, List.all_cons, List.all_cons, byte_all, byte_all]; rfl) (by simp only [List.length_append, List.length_cons, List.length_nil, List.drop_zero] at hlen ⊢; omega)
        rw [List.drop_zero] at this
        exact this
      · rw [if_neg h2] at h hlen hall ⊢
        rw [if_neg h2]
        by_cases h3 : kind = 3
        · rw [if_pos h3] at h hlen hall ⊢
          simp only [Bool.and_eq_true, decide_eq_true_eq] at h
          have htl := textL_length piece
          rw [if_pos h3, putText_f _ _ (by simp) (by omega) k (by omega), Option.bind_some, put16_f _ _ (by rw [List.length_append]; simp; omega) k (by omega), Option.bind_some]
          have he : [kind % 256] ++ textL piece ++ num16 next = kind % 256 :: (textL piece ++ num16 next) := by simp
          rw [he]
          exact pad_seal _ hall hlen
        · rw [if_neg h3] at h
          cases h
  · rw [if_neg h, if_neg h]
theorem nx_nat (i : Nat) (h : i ≤ 1000000) : wrap64 ((i : Int) + 1) = ((i + 1 : Nat) : Int) := by rw [wrap_in (by omega) (by omega)]; omega
end Go.Proofs.Ytgbcfkcnoncgdaa.Pure
namespace Go.Proofs.Ytgbcfkcnoncgdaa.Pure
open Go.Proofs.Ytgbcfkcnoncgdaa.Hand
open Go.RowKit Go.Proofs.Ytgbcfkcnoncgdaa.Sp Go.Proofs.YtgbcfkcnoncgdaaW.PrintWords Go.Proofs.YtgbcfkcnoncgdaaW.PrintLast
theorem equal_loop (a b : List Int) (hab : a.length = b.length) (ha : a.length ≤ 100000000) (d : Nat) : ∀ (k : Nat) (i : Nat), i ≤ a.length → a.length - i = d → d < k → slices_Equal_byte_byte.l0 k a b (a.length : Int) (i : Int) = some (decide (a.drop i = b.drop i)) := by
  induction d with
  | zero =>
    intro k i hi hd hk
    obtain ⟨k, rfl⟩ : ∃ m, k = m + 1 := ⟨k - 1, by omega⟩
    simp only [slices_Equal_byte_byte.l0]
    rw [if_neg (by omega), List.drop_of_length_le (by omega), List.drop_of_length_le (by omega)]
    simp
  | succ d ih =>
    intro k i hi hd hk
    obtain ⟨k, rfl⟩ : ∃ m, k = m + 1 := ⟨k - 1, by omega⟩
    have hia : i < a.length := by omega
    have hib : i < b.length := by omega
    simp only [slices_Equal_byte_byte.l0]
    rw [if_pos (by omega), if_pos (by omega), if_pos (by omega), if_pos (by omega)]
    have ra : rd a (i : Int) = a[i] := by unfold rd; simp [hia]
    have rb : rd b (i : Int) = b[i] := by unfold rd; simp [hib]
    rw [ra, rb, List.drop_eq_getElem_cons hia, List.drop_eq_getElem_cons hib]
    by_cases e : a[i] = b[i]
    · rw [if_pos e, wrap_in (by omega) (by omega), show (i : Int) + 1 = ((i + 1 : Nat) : Int) by omega, ih k (i + 1) (by omega) (by omega) (by omega)]
      congr 1
      rw [decide_eq_decide, e]
      exact ⟨fun h => by rw [h], fun h => (List.cons.inj h).2⟩
    · rw [if_neg e]
      congr 1
      symm
      rw [decide_eq_false_iff_not]
      intro h
      injection h with h1 _
      exact e h1
theorem equal_f (a b : List Int) (ha : a.length ≤ 100000000) (k : Nat) (hk : a.length < k) : slices_Equal_byte_byte.f k a b = some (decide (a = b)) := by
  unfold slices_Equal_byte_byte.f
  by_cases h : a.length = b.length
  · rw [if_pos (by omega)]
    have := equal_loop a b h ha a.length k 0 (by omega) (by omega) hk
    simpa using this
  · rw [if_neg (by omega)]
    have : a ≠ b := fun e => h (by rw [e])
    simp [this]
def opened (l : List Int) : Bool := decide (4 ≤ l.length ∧ sealL (l.take (l.length - 4)) = l)
theorem open_f {l : List Int} (hB : l.all isB = true) (hl : l.length ≤ 10000000) (k : Nat) (hk : l.length < k) :
    sum_Open.f k l = some (if opened l = true then (l.take (l.length - 4), true) else ([], false)) := by
  unfold sum_Open.f
  rw [wrap_in (by omega) (by omega)]
  by_cases h4 : 4 ≤ l.length
  · have hn : ((l.length : Int) - 4).toNat = l.length - 4 := by omega
    rw [if_neg (by omega), if_pos (by omega), if_pos (by omega), hn, seal_f (all_take hB _) (by simp; omega)]
    simp only [Option.bind_some]
    rw [equal_f _ _ (by rw [sealL_length]; simp; omega) k (by rw [sealL_length]; simp; omega)]
    simp only [Option.bind_some]
    unfold opened slices_Clone_byte_byte.f
    by_cases e : sealL (l.take (l.length - 4)) = l
    · rw [if_pos (by simp [e]), if_pos (by simp; omega), if_pos (by simp [e, h4])]
      rfl
    · rw [if_neg (by simp [e]), if_neg (by simp [e])]
  · rw [if_pos (by omega), if_neg (by simp [opened]; omega)]
end Go.Proofs.Ytgbcfkcnoncgdaa.Pure
namespace Go.Proofs.Ytgbcfkcnoncgdaa.Hand
open Go.RowKit Go.Proofs.Ytgbcfkcnoncgdaa.Sp Go.Proofs.YtgbcfkcnoncgdaaW.PrintWords Go.Proofs.YtgbcfkcnoncgdaaW.PrintLast Go.Proofs.YtgbcfkcnoncgdaaW.PrintMore
set_option linter.unusedVariables false
set_option linter.unusedSimpArgs false
def pageV (k : Int) (v1 v2 : Value) (s : ByteArray) (n : Int) : Array Value := #[.int .i64 k, v1, v2, .string s, .int .i64 n]
abbrev nilV : Value := .slice none 0 0
theorem info_page : (Try.prog.info? 26).map (·.size) = some 5 := by kernel_rfl
theorem flatC_cut : ∀ (xs : List CellP) (j : Nat) (c : CellP), xs[j]? = some c → ((flatC xs).drop (j * 4)).take 4 = (cellV c).toList
  | [], _, _, h => by simp at h
  | x :: r, 0, c, h => by
    obtain rfl : x = c := by simpa using h
    rw [Nat.zero_mul, List.drop_zero, flatC, List.take_append_of_le_length (by simp [cellV]), List.take_of_length_le (by simp [cellV])]
  | x :: r, j + 1, c, h => by
    have := flatC_cut r j c (by simpa using h)
    rw [flatC, List.drop_append, List.drop_of_length_le (by simp [cellV]; omega), List.nil_append, ← this]
    congr 2
    simp [cellV]
    omega
theorem flatK_cut : ∀ (xs : List KidP) (j : Nat) (c : KidP), xs[j]? = some c → ((flatK xs).drop (j * 2)).take 2 = [.string c.1, .int .i64 c.2]
  | [], _, _, h => by simp at h
  | x :: r, 0, c, h => by
    obtain rfl : x = c := by simpa using h
    rw [Nat.zero_mul, List.drop_zero, flatK, List.take_append_of_le_length (by simp), List.take_of_length_le (by simp)]
  | x :: r, j + 1, c, h => by
    have := flatK_cut r j c (by simpa using h)
    rw [flatK, List.drop_append, List.drop_of_length_le (by simp; omega), List.nil_append, ← this]
    congr 2
    simp
    omega
theorem cells_R {W : World} {base b2 : Nat} {v : Value} {xs : List CellP} (HO : W.ownsRow base 57 4 v xs.length (flatC xs)) (hb : b2 ≤ base) : Kd.R k57 57 W b2 (fun _ => True) v (xs.map s57) := by
  refine ⟨fun _ _ => trivial, flatC xs, by rw [List.length_map]; exact own_weaken HO hb, by rw [List.length_map]; exact HO.1, fun j p hp => ?_⟩
  rw [List.getElem?_map] at hp
  obtain ⟨c, hc, rfl⟩ := Option.map_eq_some_iff.1 hp
  have := flatC_cut xs j c hc
  show k57.M W b2 _ (s57 c) (((flatC xs).drop (j * 4)).take 4)
  rw [this]
  exact k57_mkM W b2 _ (s57 c)
theorem kids_R {W : World} {base b2 : Nat} {v : Value} {xs : List KidP} (HO : W.ownsRow base 61 2 v xs.length (flatK xs)) (hb : b2 ≤ base) : Kd.R k61 61 W b2 (fun _ => True) v (xs.map s61) := by
  refine ⟨fun _ _ => trivial, flatK xs, by rw [List.length_map]; exact own_weaken HO hb, by rw [List.length_map]; exact HO.1, fun j p hp => ?_⟩
  rw [List.getElem?_map] at hp
  obtain ⟨c, hc, rfl⟩ := Option.map_eq_some_iff.1 hp
  have := flatK_cut xs j c hc
  show k61.M W b2 _ (s61 c) (((flatK xs).drop (j * 2)).take 2)
  rw [this]
  exact k61_mkM W b2 _ (s61 c)
structure PInv (w wr : World) (bs g q : Nat) (l : List Int) (s : RS) (k : Int) (v1 v2 : Value) (t : ByteArray) (n : Int) (xs : List CellP) (ys : List KidP) : Prop where
  below : Below w.heap.size w wr
  res : wr.heap[w.heap.size]? = some (.cells (pageV 0 nilV nilV ⟨#[]⟩ 0) 26 (0, 0))
  rd : Rd wr bs g l s
  lo : w.heap.size < bs
  gq : g < q
  blk : wr.heap[q]? = some (.cells (pageV k v1 v2 t n) 26 (0, 0))
  o1 : wr.ownsRow (q + 1) 57 4 v1 xs.length (flatC xs)
  o2 : wr.ownsRow (q + 1) 61 2 v2 ys.length (flatK ys)
section
variable {w wr w' : World} {bs g q : Nat} {l : List Int} {s s' : RS} {k : Int} {v1 v2 : Value} {t : ByteArray} {n : Int} {xs : List CellP} {ys : List KidP}
theorem own_only {e : TypeId} {z m : Nat} {v : Value} {us : List Value} (h : wr.ownsRow (q + 1) e z v m us) (ho : Only wr w' g) (hg : g < q) : w'.ownsRow (q + 1) e z v m us :=
  own_move h (fun j hj => ho.block j (own_lt h j hj) (by have := own_base h j hj; omega))
theorem PInv.bg (h : PInv w wr bs g q l s k v1 v2 t n xs ys) : bs ≤ g := h.rd.base
theorem PInv.qlt (h : PInv w wr bs g q l s k v1 v2 t n xs ys) : q < wr.heap.size := blk_lt h.blk
theorem PInv.only (h : PInv w wr bs g q l s k v1 v2 t n xs ys) (ho : Only wr w' g) (hr : Rd w' bs g l s') : PInv w w' bs g q l s' k v1 v2 t n xs ys := by
  have h1 := h.bg
  have h2 := h.lo
  have h3 := h.gq
  exact ⟨ho.below h.below (by omega) h.below.size, blk_only h.res ho (by omega), hr, h.lo, h.gq, blk_only h.blk ho (by omega), own_only h.o1 ho h.gq, own_only h.o2 ho h.gq⟩
theorem PInv.mem (h : PInv w wr bs g q l s k v1 v2 t n xs ys) (hb : Below wr.heap.size wr w') : PInv w w' bs g q l s k v1 v2 t n xs ys :=
  ⟨below_step h.below hb, blk_below h.res hb, h.rd.below hb, h.lo, h.gq, blk_below h.blk hb, pw_own_below h.o1 hb, pw_own_below h.o2 hb⟩
theorem PInv.cells (h : PInv w wr bs g q l s k v1 v2 t n xs ys) : wr.cell? ⟨q, 0, none⟩ = some (.int .i64 k) ∧ wr.cell? ⟨q, 1, none⟩ = some v1 ∧ wr.cell? ⟨q, 2, none⟩ = some v2 ∧ wr.cell? ⟨q, 3, none⟩ = some (.string t) ∧ wr.cell? ⟨q, 4, none⟩ = some (.int .i64 n) ∧ ∀ j, wr.frozen? ⟨q, j, none⟩ = false :=
  ⟨blk_cell h.blk 0, blk_cell h.blk 1, blk_cell h.blk 2, blk_cell h.blk 3, blk_cell h.blk 4, blk_frozen h.blk⟩
theorem Below.far {B : Nat} {a b : World} (h : Below B a b) {q : Nat} (hq : B ≤ q) (j : Nat) (u : Value) : Below B a (b.setCell ⟨q, j, none⟩ u) := h.setCell hq u
theorem PInv.put (h : PInv w wr bs g q l s k v1 v2 t n xs ys) (j : Nat) (u : Value) {k' : Int} {t' : ByteArray} {n' : Int} (hC : (pageV k v1 v2 t n).setIfInBounds j u = pageV k' v1 v2 t' n') : PInv w (wr.setCell ⟨q, j, none⟩ u) bs g q l s k' v1 v2 t' n' xs ys := by
  have h1 := h.bg
  have h2 := h.lo
  have h3 := h.gq
  refine ⟨Below.far h.below (by omega) j u, blk_far h.res (by omega) j u, h.rd.far h.gq j u, h.lo, h.gq, blk_put h.blk j u hC, ?_, ?_⟩
  · exact own_setCell h.o1 (p := ⟨q, j, none⟩) (own_ne h.o1 h.blk (by decide)) u
  · exact own_setCell h.o2 (p := ⟨q, j, none⟩) (own_ne h.o2 h.blk (by decide)) u
theorem grown_only {a b : World} {r : Option Nat} (h : a.grownBy b r) (hr : ∀ j, r = some j → q + 1 ≤ j) {o : Obj} {i : Nat} (hi : a.heap[i]? = some o) (hq : i ≤ q) : b.heap[i]? = some o :=
  (h.block i (blk_lt hi) (by rintro rfl; exact absurd (hr i rfl) (by omega))).trans hi
theorem rd_grown {a b : World} {r : Option Nat} (h : a.grownBy b r) (hr : ∀ j, r = some j → q + 1 ≤ j) (hR : Rd a bs g l s) (hg : g < q) : Rd b bs g l s := by
  obtain ⟨⟨A, c, h1, h2, h3, h4⟩, r1, r2, r3, r4⟩ := hR
  refine ⟨⟨A, c, grown_only h hr h1 (by omega), h2, ?_, h4⟩, r1, r2, r3, r4⟩
  cases r with
  | none => exact Kd.C_keep (g := a.heap.size) (0 : Int) h3 ⟨h.size, fun i hi _ _ => h.block i hi (by simp)⟩ (fun ad e hp => by have := h4 ad e hp; have := blk_lt h1; omega)
  | some j => exact Kd.C_keep (g := j) (0 : Int) h3 ⟨h.size, fun i hi hne _ => h.block i hi (by intro e; cases e; exact hne rfl)⟩ (fun ad e hp => by have := h4 ad e hp; have := hr j rfl; omega)
theorem PInv.appC {w1 : World} {c : CellP} {v : Value} (h : PInv w wr bs g q l s k v1 v2 t n xs ys) (hO : w1.ownsRow (q + 1) 57 4 v (xs.length + 1) (flatC (xs ++ [c]))) (hg : wr.grownBy w1 v1.ownBlock) : PInv w (w1.setCell ⟨q, 1, none⟩ v) bs g q l s k v v2 t n (xs ++ [c]) ys := by
  have h1 := h.bg
  have h2 := h.lo
  have h3 := h.gq
  have hr : ∀ j, v1.ownBlock = some j → q + 1 ≤ j := fun j hj => own_base h.o1 j hj
  have hblk := grown_only hg hr h.blk (Nat.le_refl _)
  refine ⟨Below.far ?_ (by omega) 1 v, blk_far (grown_only hg hr h.res (by omega)) (by omega) 1 v, (rd_grown hg hr h.rd h.gq).far h.gq 1 v, h.lo, h.gq, blk_put hblk 1 v rfl, ?_, ?_⟩
  · exact ⟨hg.os.trans h.below.os, hg.tape.trans h.below.tape, hg.output.trans h.below.output, Nat.le_trans h.below.size hg.size, fun i hi => (hg.block i (Nat.lt_of_lt_of_le hi h.below.size) (by intro he; have := hr i he.symm; omega)).trans (h.below.block i hi)⟩
  · rw [List.length_append, List.length_singleton]
    exact own_setCell hO (p := ⟨q, 1, none⟩) (own_ne hO hblk (by decide)) v
  · have h5 := own_other h.o2 hg (own_type_ne h.o2 h.o1 (by decide))
    exact own_setCell h5 (p := ⟨q, 1, none⟩) (own_ne h5 hblk (by decide)) v
theorem PInv.appK {w1 : World} {c : KidP} {v : Value} (h : PInv w wr bs g q l s k v1 v2 t n xs ys) (hO : w1.ownsRow (q + 1) 61 2 v (ys.length + 1) (flatK (ys ++ [c]))) (hg : wr.grownBy w1 v2.ownBlock) : PInv w (w1.setCell ⟨q, 2, none⟩ v) bs g q l s k v1 v t n xs (ys ++ [c]) := by
  have h1 := h.bg
  have h2 := h.lo
  have h3 := h.gq
  have hr : ∀ j, v2.ownBlock = some j → q + 1 ≤ j := fun j hj => own_base h.o2 j hj
  have hblk := grown_only hg hr h.blk (Nat.le_refl _)
  refine ⟨Below.far ?_ (by omega) 2 v, blk_far (grown_only hg hr h.res (by omega)) (by omega) 2 v, (rd_grown hg hr h.rd h.gq).far h.gq 2 v, h.lo, h.gq, blk_put hblk 2 v rfl, ?_, ?_⟩
  · exact ⟨hg.os.trans h.below.os, hg.tape.trans h.below.tape, hg.output.trans h.below.output, Nat.le_trans h.below.size hg.size, fun i hi => (hg.block i (Nat.lt_of_lt_of_le hi h.below.size) (by intro he; have := hr i he.symm; omega)).trans (h.below.block i hi)⟩
  · have h5 := own_other h.o1 hg (own_type_ne h.o1 h.o2 (by decide))
    exact own_setCell h5 (p := ⟨q, 2, none⟩) (own_ne h5 hblk (by decide)) v
  · rw [List.length_append, List.length_singleton]
    exact own_setCell hO (p := ⟨q, 2, none⟩) (own_ne hO hblk (by decide)) v
end
def okP (p : PageP) (l : List Int) : Bool := Pure.rightB p.1 (p.2.1.map s57) (p.2.2.1.map s61) p.2.2.2.1 p.2.2.2.2 && decide (Pure.encL p.1 (p.2.1.map s57) (p.2.2.1.map s61) p.2.2.2.1 p.2.2.2.2 = l)
def decL (l : List Int) : PageP × Int :=
  if l.length ≠ 256 then (page0, 4) else if Pure.opened l = false then (page0, 5) else if (parseP (l.take 252)).2.e ≠ 0 then (page0, 3)
  else if okP (parseP (l.take 252)).1 l = true then ((parseP (l.take 252)).1, 0) else (page0, 3)
def DecOut (w : World) (r : PageP × Int) (x : Ending) (w' : World) : Prop := ∃ v1 v2, x = .returned (.tuple #[.agg (pageV r.1.1 v1 v2 r.1.2.2.2.1 r.1.2.2.2.2), .int .i64 r.2]) ∧
  Kd.R k57 57 w' w.heap.size (fun _ => True) v1 (r.1.2.1.map s57) ∧ Kd.R k61 61 w' w.heap.size (fun _ => True) v2 (r.1.2.2.1.map s61) ∧ Below w.heap.size w w'
theorem dec_laid {w wz : World} {a : Act} {C : Array Value} {e : Int} {Q : Ending → World → Prop} (h1 : wz.heap[w.heap.size]? = some (.cells C 26 (0, 0))) (hC : C.size = 5) (ha : a.tmps.getD 2 undef = .pointer (some ⟨w.heap.size, 0, none⟩)) (he : a.tmps.getD 3 undef = .int .i64 e) (hd : a.defers = [])
    (hQ : Q (.returned (.tuple #[.agg C, .int .i64 e])) wz) : bodyPost Try.prog Try.f10 Q .ret a wz := by
  refine bodyPost_ret (v := .tuple #[.agg C, .int .i64 e]) ?_ hd hQ
  rw [results_cell_tmp Try.results10, ha, he]
  simp only [asAddr, Sem.run_pure, Result.andThen_ok, run_loadVar_row wz w.heap.size 26 26 C (0, 0) _ h1 Try.underlying26 rfl (by rw [hC]; exact info_page)]
theorem dec_empty {w w' : World} (e : Int) (hb : Below w.heap.size w w') : DecOut w (page0, e) (.returned (.tuple #[.agg (pageV 0 nilV nilV ⟨#[]⟩ 0), .int .i64 e])) w' := ⟨nilV, nilV, rfl, Kd.R_nil _ _ _ _ _, Kd.R_nil _ _ _ _ _, hb⟩
theorem dec_long {w : World} {A : Option Addr} {c : Nat} {l : List Int} (hl : l.length ≠ 256) (hs : l.length ≤ 140737488355328) : Calls Try.prog 10 #[.slice A l.length c] w (DecOut w (page0, 4)) := by
  have z1 : ((l.length : Int) != 256) = true := by simp; omega
  go_enter Try.func10, Try.ntmps10
  go_wp2
  exact dec_laid (C := pageV 0 nilV nilV ⟨#[]⟩ 0) (e := 4) (blk_new _ _) rfl rfl rfl rfl (dec_empty 4 (below_alloc (Below.refl _ _) _))
def OpenOut (w : World) (b : Bool) (l : List Int) (e : Ending) (w' : World) : Prop := (b = false → ∃ v, e = .returned (.tuple #[v, .bool false])) ∧ (b = true → ∃ A c, e = .returned (.tuple #[.slice A 252 c, .bool true]) ∧ 252 ≤ c ∧ Kd.C (Kd.int .u8) w' A 252 (l.take 252)) ∧ Below w.heap.size w w'
theorem open_any {w : World} {A : Option Addr} {c : Nat} {l : List Int} (hl : l.length = 256) (hC : (Kd.int .u8).C w A l.length l) (hc : l.length ≤ c) (hB : l.all isB = true) : Calls Try.prog 20 #[.slice A l.length c] w (OpenOut w (Pure.opened l) l) := by
  have hf := Pure.open_f hB (by omega) (l.length + 1) (by omega)
  cases ho : Pure.opened l
  · rw [if_neg (by rw [ho]; decide)] at hf
    exact (sum_Open.calls (l.length + 1) A c l [] false w hC hc hf).mono fun e w' ⟨v, h1, _, h3⟩ => ⟨fun _ => ⟨v, h1⟩, (fun h => by cases h), h3⟩
  · rw [if_pos ho] at hf
    refine (sum_Open.calls (l.length + 1) A c l _ true w hC hc hf).mono fun e w' ⟨v, h1, h2, h3⟩ => ⟨(fun h => by cases h), fun _ => ?_, h3⟩
    obtain ⟨A2, c2, rfl, h4, h5⟩ := Kd.R_reads h2
    rw [hl] at h1 h4 h5
    have h6 : (l.take (256 - 4)).length = 252 := by rw [List.length_take, hl]; rfl
    rw [h6] at h1 h4 h5
    exact ⟨A2, c2, h1, h4, h5⟩
end Go.Proofs.Ytgbcfkcnoncgdaa.Hand
namespace Go.Proofs.Ytgbcfkcnoncgdaa.Hand
open Go.RowKit Go.Proofs.Ytgbcfkcnoncgdaa.Sp Go.Proofs.YtgbcfkcnoncgdaaW.PrintWords Go.Proofs.YtgbcfkcnoncgdaaW.PrintLast Go.Proofs.YtgbcfkcnoncgdaaW.PrintMore
set_option linter.unusedVariables false
set_option linter.unusedSimpArgs false
theorem five_cells {W : World} {q : Nat} {k n : Int} {v1 v2 : Value} {t : ByteArray} (h : W.heap[q]? = some (.cells (pageV k v1 v2 t n) 26 (0, 0))) : W.cell? ⟨q, 0, none⟩ = some (.int .i64 k) ∧ W.cell? ⟨q, 1, none⟩ = some v1 ∧ W.cell? ⟨q, 2, none⟩ = some v2 ∧ W.cell? ⟨q, 3, none⟩ = some (.string t) ∧ W.cell? ⟨q, 4, none⟩ = some (.int .i64 n) ∧ ∀ j, W.frozen? ⟨q, j, none⟩ = false :=
  ⟨blk_cell h 0, blk_cell h 1, blk_cell h 2, blk_cell h 3, blk_cell h 4, blk_frozen h⟩
theorem laid_five {W : World} {q : Nat} {k n : Int} {v1 v2 : Value} {t : ByteArray} {k' n' : Int} {v1' v2' : Value} {t' : ByteArray} (h : W.heap[q]? = some (.cells (pageV k' v1' v2' t' n') 26 (0, 0))) : (((((W.setCell ⟨q, 0, none⟩ (.int .i64 k)).setCell ⟨q, 1, none⟩ v1).setCell ⟨q, 2, none⟩ v2).setCell ⟨q, 3, none⟩ (.string t)).setCell ⟨q, 4, none⟩ (.int .i64 n)).heap[q]? = some (.cells (pageV k v1 v2 t n) 26 (0, 0)) := by
  exact blk_set (blk_set (blk_set (blk_set (blk_set h 0 (.int .i64 k)) 1 v1) 2 v2) 3 (.string t)) 4 (.int .i64 n)
theorem below_five {B : Nat} {a W : World} (h : Below B a W) {q : Nat} (hq : B ≤ q) (x0 x1 x2 x3 x4 : Value) : Below B a (((((W.setCell ⟨q, 0, none⟩ x0).setCell ⟨q, 1, none⟩ x1).setCell ⟨q, 2, none⟩ x2).setCell ⟨q, 3, none⟩ x3).setCell ⟨q, 4, none⟩ x4) := Below.far (Below.far (Below.far (Below.far (Below.far h hq 0 x0) hq 1 x1) hq 2 x2) hq 3 x3) hq 4 x4
set_option maxHeartbeats 2000000 in
theorem dec_sum {w : World} {A : Option Addr} {c : Nat} {l : List Int} (hl : l.length = 256) (hC : (Kd.int .u8).C w A l.length l) (hc : l.length ≤ c) (hB : l.all isB = true) (ho : Pure.opened l = false) : Calls Try.prog 10 #[.slice A l.length c] w (DecOut w (page0, 5)) := by
  have z1 : ((l.length : Int) != 256) = false := by simp; omega
  have hb1 : Below w.heap.size w (w.alloc (.cells (pageV 0 nilV nilV ⟨#[]⟩ 0) 26)) := below_alloc (Below.refl _ _) _
  have HO := Aside0.mk (open_any hl (Kd.C_below hC hb1) hc hB)
  rw [ho] at HO
  have HB1 := Aside0.mk hb1
  have HD1 : Aside0 ((w.alloc (.cells (pageV 0 nilV nilV ⟨#[]⟩ 0) 26)).heap[w.heap.size]? = some (.cells (pageV 0 nilV nilV ⟨#[]⟩ 0) 26 (0, 0))) := ⟨blk_new _ _⟩
  clear hC hb1 hl ho hB hc
  go_enter Try.func10, Try.ntmps10
  go_wp2_with (go_at_call 20; refine HO.out.mono ?_; rintro e w2 ⟨h1, _, hb⟩; obtain ⟨v, rfl⟩ := h1 rfl; have HB2 := Aside0.mk (below_step HB1.out hb); have HD2 := Aside0.mk (blk_below HD1.out hb); obtain ⟨d0, d1, d2, d3, d4, df⟩ := five_cells HD2.out; have hlt := blk_lt HD2.out; clear hb h1)
  exact dec_laid (C := pageV 0 nilV nilV ⟨#[]⟩ 0) (e := 5) (laid_five HD2.out) rfl rfl rfl rfl (dec_empty 5 (below_five HB2.out (Nat.le_refl _) _ _ _ _ _))
theorem read_n {w : World} {A0 : Option Addr} {c0 n : Nat} {l : List Int} (hn : l.length = n) (hr0 : (Kd.int .u8).C w A0 n l) (hc0 : n ≤ c0) (hl : n < 140737488355328) (hb : isBy l) :
    Calls Try.prog 21 #[.slice A0 n c0] w (ReadOut w l) := by
  subst hn
  exact Read_any hr0 hc0 hl hb
theorem isBy_all {l : List Int} (h : l.all isB = true) : isBy l := by
  intro x hx
  have := List.all_eq_true.1 h x hx
  simpa [isB] using this
theorem isBy_take {l : List Int} (h : isBy l) (n : Nat) : isBy (l.take n) := fun x hx => h x (List.mem_of_mem_take hx)
theorem PInv.start {w W : World} {bs g : Nat} {l : List Int} {s : RS} (k : Int) (hB : Below w.heap.size w W) (hD : W.heap[w.heap.size]? = some (.cells (pageV 0 nilV nilV ⟨#[]⟩ 0) 26 (0, 0))) (hR : Rd W bs g l s) (hlo : w.heap.size < bs) :
    PInv w (W.alloc (.cells #[.int .i64 k, .slice none 0 0, .slice none 0 0, .string ⟨#[]⟩, .int .i64 0] 26)) bs g W.heap.size l s k nilV nilV ⟨#[]⟩ 0 [] [] :=
  ⟨below_alloc hB _, blk_below hD (below_alloc (Below.refl _ _) _), hR.below (below_alloc (Below.refl _ _) _), hlo, hR.lt, blk_new _ _, own_nil _ _ _ _, own_nil _ _ _ _⟩
def CutRel (w : World) (bs g q : Nat) (l : List Int) (pr : PageP × RS) (wc : World) : Prop := ∃ v1 v2, pr.1.2.1.length ≤ 255 ∧ pr.1.2.2.1.length ≤ 255 ∧ PInv w wc bs g q l pr.2 pr.1.1 v1 v2 pr.1.2.2.2.1 pr.1.2.2.2.2 pr.1.2.1 pr.1.2.2.1
theorem dec_bad {w wz : World} {k' n' : Int} {v1' v2' : Value} {t' : ByteArray} {a : Act} (e : Int) (hb : Below w.heap.size w wz) (h : wz.heap[w.heap.size]? = some (.cells (pageV k' v1' v2' t' n') 26 (0, 0))) (ha : a.tmps.getD 2 undef = .pointer (some ⟨w.heap.size, 0, none⟩)) (he : a.tmps.getD 3 undef = .int .i64 e) (hd : a.defers = []) :
    bodyPost Try.prog Try.f10 (DecOut w (page0, e)) .ret a (((((wz.setCell ⟨w.heap.size, 0, none⟩ (.int .i64 0)).setCell ⟨w.heap.size, 1, none⟩ nilV).setCell ⟨w.heap.size, 2, none⟩ nilV).setCell ⟨w.heap.size, 3, none⟩ (.string ⟨#[]⟩)).setCell ⟨w.heap.size, 4, none⟩ (.int .i64 0)) :=
  dec_laid (C := pageV 0 nilV nilV ⟨#[]⟩ 0) (e := e) (laid_five h) rfl ha he hd (dec_empty e (below_five hb (Nat.le_refl _) _ _ _ _ _))
theorem PInv.grownblk {w wr w1 : World} {bs g q : Nat} {l : List Int} {s : RS} {k : Int} {v1 v2 : Value} {t : ByteArray} {n : Int} {xs : List CellP} {ys : List KidP} (h : PInv w wr bs g q l s k v1 v2 t n xs ys) (hg : wr.grownBy w1 v1.ownBlock) : w1.heap[q]? = some (.cells (pageV k v1 v2 t n) 26 (0, 0)) :=
  grown_only hg (fun j hj => own_base h.o1 j hj) h.blk (Nat.le_refl _)
theorem PInv.grownblk2 {w wr w1 : World} {bs g q : Nat} {l : List Int} {s : RS} {k : Int} {v1 v2 : Value} {t : ByteArray} {n : Int} {xs : List CellP} {ys : List KidP} (h : PInv w wr bs g q l s k v1 v2 t n xs ys) (hg : wr.grownBy w1 v2.ownBlock) : w1.heap[q]? = some (.cells (pageV k v1 v2 t n) 26 (0, 0)) :=
  grown_only hg (fun j hj => own_base h.o2 j hj) h.blk (Nat.le_refl _)
theorem run_app_op {op : Oper} {a : Act} {W w1 : World} {v1 : Value} (v x : Value) (s y : Operand) (t : TypeId) (ho : op.op = .call { callee := .builtin .append, args := #[s, y], argTypes := #[t, t] })
    (hs : a.eval s = v) (hx : a.eval y = x) (hr : (Builtin.append_ #[t, t] op.type #[v, x]).run Try.prog W = .ok v1 w1) : (execOp a.eval op).run Try.prog W = .ok (.value v1) w1 := by
  unfold execOp
  simp only [ho, resolve, invoke, builtin, Sem.run_bind, Sem.run_pure, Result.andThen_ok, List.map_toArray, List.map_cons, List.map_nil, hs, hx, hr]
theorem wp_app {ops : Array Oper} {rest : List Oper} {o : Oper} {a : Act} {Q : Exit → Act → World → Prop} {W w1 : World} {v1 : Value} (hgd : o.guard = none) (v x : Value) (s y : Operand) (t : TypeId) (ho : o.op = .call { callee := .builtin .append, args := #[s, y], argTypes := #[t, t] })
    (hs : a.eval s = v) (hx : a.eval y = x) (hr : (Builtin.append_ #[t, t] o.type #[v, x]).run Try.prog W = .ok v1 w1) (h : wpList Try.prog ops Q rest (a.put o.dst v1) w1) : wpList Try.prog ops Q (o :: rest) a W := by
  refine wpList_plain hgd fun K hK => ?_
  unfold Oper.wp execOp
  simp only [ho, resolve, invoke, builtin, Sem.run_bind, Sem.run_pure, Result.andThen_ok, List.map_toArray, List.map_cons, List.map_nil, hs, hx, hr]
  exact hK _ _ h
theorem parse_leaf {l : List Int} {s1 s2 : RS} {N : Nat} (h : rNum l ⟨0, 0⟩ 1 = (1, s1)) (h2 : rNum l s1 1 = ((N : Int), s2)) : parseP l = ((1, (cellsK l s2 N).1, [], ⟨#[]⟩, 0), (cellsK l s2 N).2) := by
  unfold parseP
  rw [h, if_pos rfl]
  simp only
  rw [h2]
  simp only
  rw [Int.toNat_natCast]
theorem parse_branch {l : List Int} {s1 s2 : RS} {N : Nat} (h : rNum l ⟨0, 0⟩ 1 = (2, s1)) (h2 : rNum l s1 1 = ((N : Int), s2)) : parseP l = ((2, [], (kidsK l s2 N).1, ⟨#[]⟩, 0), (kidsK l s2 N).2) := by
  unfold parseP
  rw [h, if_neg (show ¬ (2 : Int) = 1 by decide), if_pos rfl]
  simp only
  rw [h2]
  simp only
  rw [Int.toNat_natCast]
theorem parse_chain {l : List Int} {s1 s2 s3 : RS} {x : List Int} {n : Int} (h : rNum l ⟨0, 0⟩ 1 = (3, s1)) (h2 : rText l s1 240 = (x, s2)) (h3 : rNum l s2 2 = (n, s3)) : parseP l = ((3, [], [], strOfNums x, n), s3) := by
  unfold parseP
  rw [h, if_neg (show ¬ (3 : Int) = 1 by decide), if_neg (show ¬ (3 : Int) = 2 by decide), if_pos rfl]
  simp only
  rw [h2]
  simp only
  rw [h3]
theorem parse_none {l : List Int} {s1 : RS} {k : Int} (h : rNum l ⟨0, 0⟩ 1 = (k, s1)) (h1 : k ≠ 1) (h2 : k ≠ 2) (h3 : k ≠ 3) : parseP l = ((k, [], [], ⟨#[]⟩, 0), s1) := by
  unfold parseP
  rw [h, if_neg h1, if_neg h2, if_neg h3]
structure LeafStep (l : List Int) (s2 : RS) (k : Nat) (X : List CellP) (sk : RS) (ca cb : ByteArray) (cc cd : Int) (s4 : RS) : Prop where
  x : (cellsK l s2 k).1 = X
  s : (cellsK l s2 k).2 = sk
  t : takeC l sk = ((ca, cb, cc, cd), s4)
  x2 : (cellsK l s2 (k + 1)).1 = X ++ [(ca, cb, cc, cd)]
  s2' : (cellsK l s2 (k + 1)).2 = s4
theorem leafStep (l : List Int) (s2 : RS) (k : Nat) : ∃ X sk ca cb cc cd s4, LeafStep l s2 k X sk ca cb cc cd s4 :=
  ⟨_, _, _, _, _, _, _, rfl, rfl, rfl, rfl, rfl⟩
def dec12_T : Bool × List (List Nat × List Nat) := (true, [([], []), ([0], [0]), ([], []), ([2], [2]), ([3], [3]), ([1, 4, 3], [1, 4]), ([0, 1, 2, 3, 4, 5], []), ([6, 5, 5, 0, 1, 2, 3, 4, 5], [5, 6])])
def dec12_B : List Nat := [0, 1, 0, 4, 12, 31, 63, 127]
theorem dec12_tab : rtab .any (opsOf Try.f10 12) = dec12_T := by kernel_rfl
theorem dec12_bits : waitsOk dec12_T.2 dec12_B = true := by kernel_rfl
def LeafRel (w : World) (bs g q : Nat) (l : List Int) (s2 : RS) (N : Nat) (i : Value) (wr : World) : Prop := ∃ (k : Nat) (v1 : Value), k ≤ N ∧ i = .int .i64 (k : Int) ∧ PInv w wr bs g q l (cellsK l s2 k).2 1 v1 nilV ⟨#[]⟩ 0 (cellsK l s2 k).1 []
theorem blk_new_set (w : World) (p : Addr) (u : Value) (o : Obj) : ((w.setCell p u).alloc o).heap[w.heap.size]? = some o := by
  have := blk_new (w.setCell p u) o
  rwa [show (w.setCell p u).heap.size = w.heap.size from by simp [World.setCell]] at this
structure KidStep (l : List Int) (s2 : RS) (k : Nat) (Y : List KidP) (sk : RS) (S : ByteArray) (n : Int) (s3 s4 : RS) : Prop where
  x : (kidsK l s2 k).1 = Y
  s : (kidsK l s2 k).2 = sk
  t : strOfNums (rText l sk 24).1 = S
  ts : (rText l sk 24).2 = s3
  nn : (rNum l s3 2).1 = n
  ns : (rNum l s3 2).2 = s4
  x2 : (kidsK l s2 (k + 1)).1 = Y ++ [(S, n)]
  s2' : (kidsK l s2 (k + 1)).2 = s4
theorem kidStep (l : List Int) (s2 : RS) (k : Nat) : ∃ Y sk S n s3 s4, KidStep l s2 k Y sk S n s3 s4 := ⟨_, _, _, _, _, _, rfl, rfl, rfl, rfl, rfl, rfl, rfl, rfl⟩
def BranchRel (w : World) (bs g q : Nat) (l : List Int) (s2 : RS) (N : Nat) (i : Value) (wr : World) : Prop := ∃ (k : Nat) (v2 : Value), k ≤ N ∧ i = .int .i64 (k : Int) ∧ PInv w wr bs g q l (kidsK l s2 k).2 2 nilV v2 ⟨#[]⟩ 0 [] (kidsK l s2 k).1
theorem PInv.v2lt {w wr : World} {bs g q : Nat} {l : List Int} {s : RS} {k : Int} {v1 v2 : Value} {t : ByteArray} {n : Int} {xs : List CellP} {ys : List KidP} (h : PInv w wr bs g q l s k v1 v2 t n xs ys) : ∀ j, v2.ownBlock = some j → j < wr.heap.size := fun j hj => own_lt h.o2 j hj
theorem PInv.setFar {w wr : World} {bs g q z : Nat} {l : List Int} {s : RS} {k : Int} {v1 v2 : Value} {t : ByteArray} {n : Int} {xs : List CellP} {ys : List KidP} {C : Array Value} (h : PInv w wr bs g q l s k v1 v2 t n xs ys) (hz : q < z) (hv : ∀ j, v2.ownBlock = some j → j < z) (hb : wr.heap[z]? = some (.cells C 61 (0, 0))) (j : Nat) (u : Value) : PInv w (wr.setCell ⟨z, j, none⟩ u) bs g q l s k v1 v2 t n xs ys := by
  have h1 := h.bg
  have h2 := h.lo
  have h3 := h.gq
  refine ⟨Below.far h.below (by omega) j u, blk_far h.res (by omega) j u, h.rd.far (by omega) j u, h.lo, h.gq, blk_far h.blk (by omega) j u, own_setCell h.o1 (p := ⟨z, j, none⟩) (own_ne h.o1 hb (by decide)) u, own_setCell h.o2 (p := ⟨z, j, none⟩) ?_ u⟩
  intro he
  exact absurd (hv z he.symm) (by omega)
theorem five_far {W : World} {q i : Nat} (hi : i ≠ q) (x0 x1 x2 x3 x4 : Value) : (((((W.setCell ⟨q, 0, none⟩ x0).setCell ⟨q, 1, none⟩ x1).setCell ⟨q, 2, none⟩ x2).setCell ⟨q, 3, none⟩ x3).setCell ⟨q, 4, none⟩ x4).heap[i]? = W.heap[i]? := by
  rw [Below.heap_setCell _ ⟨q, 4, none⟩ _ i hi, Below.heap_setCell _ ⟨q, 3, none⟩ _ i hi, Below.heap_setCell _ ⟨q, 2, none⟩ _ i hi, Below.heap_setCell _ ⟨q, 1, none⟩ _ i hi, Below.heap_setCell _ ⟨q, 0, none⟩ _ i hi]
theorem dec_good {w wz : World} {bs g q : Nat} {l : List Int} {s : RS} {k : Int} {v1 v2 : Value} {t : ByteArray} {n : Int} {xs : List CellP} {ys : List KidP} {a : Act} (h : PInv w wz bs g q l s k v1 v2 t n xs ys) (ha : a.tmps.getD 2 undef = .pointer (some ⟨w.heap.size, 0, none⟩)) (he : a.tmps.getD 3 undef = .int .i64 0) (hd : a.defers = []) :
    bodyPost Try.prog Try.f10 (DecOut w ((k, xs, ys, t, n), 0)) .ret a (((((wz.setCell ⟨w.heap.size, 0, none⟩ (.int .i64 k)).setCell ⟨w.heap.size, 1, none⟩ v1).setCell ⟨w.heap.size, 2, none⟩ v2).setCell ⟨w.heap.size, 3, none⟩ (.string t)).setCell ⟨w.heap.size, 4, none⟩ (.int .i64 n)) := by
  have hlo : w.heap.size ≤ q + 1 := by have := h.lo; have := h.bg; have := h.gq; omega
  refine dec_laid (C := pageV k v1 v2 t n) (e := 0) (laid_five h.res) rfl ha he hd ⟨v1, v2, rfl, cells_R (own_move h.o1 fun j hj => five_far ?_ _ _ _ _ _) hlo, kids_R (own_move h.o2 fun j hj => five_far ?_ _ _ _ _ _) hlo, below_five h.below (Nat.le_refl _) _ _ _ _ _⟩
  · have := own_base h.o1 j hj; have := h.lo; have := h.bg; have := h.gq; omega
  · have := own_base h.o2 j hj; have := h.lo; have := h.bg; have := h.gq; omega
def EncOut (w : World) (ok : Bool) (L : List Int) (e : Ending) (w' : World) : Prop := (ok = true → ∃ A c, e = .returned (.tuple #[.slice A L.length c, .int .i64 0]) ∧ L.length ≤ c ∧ Kd.C (Kd.int .u8) w' A L.length L) ∧ (ok = false → ∃ A c, e = .returned (.tuple #[.slice A 0 c, .int .i64 1])) ∧ Below w.heap.size w w'
theorem enc_any {w : World} {A1 A2 : Option Addr} {c1 c2 : Nat} (k : Int) (xs : List S57) (ys : List S61) (t : ByteArray) (n : Int) (hC1 : Kd.C k57 w A1 xs.length xs) (hc1 : xs.length ≤ c1) (hC2 : Kd.C k61 w A2 ys.length ys) (hc2 : ys.length ≤ c2) (hx : xs.length ≤ 1000) (hy : ys.length ≤ 1000) :
    Calls Try.prog 13 #[.agg #[.int .i64 k, .slice A1 xs.length c1, .slice A2 ys.length c2, .string t, .int .i64 n]] w (EncOut w (Pure.rightB k xs ys t n) (Pure.encL k xs ys t n)) := by
  have hf := Pure.encode_f k xs ys t n (by omega) (by omega) 10000 (by omega)
  cases hr : Pure.rightB k xs ys t n
  · rw [if_neg (by rw [hr]; decide)] at hf
    refine (page_Encode.calls 10000 k A1 c1 xs A2 c2 ys t n [] 1 w hC1 hc1 hC2 hc2 hf).mono fun e w' ⟨v, h1, h2, h3⟩ => ⟨(fun h => by cases h), fun _ => ?_, h3⟩
    obtain ⟨A3, c3, rfl, _, _⟩ := Kd.R_reads h2
    exact ⟨A3, c3, h1⟩
  · rw [if_pos hr] at hf
    refine (page_Encode.calls 10000 k A1 c1 xs A2 c2 ys t n _ 0 w hC1 hc1 hC2 hc2 hf).mono fun e w' ⟨v, h1, h2, h3⟩ => ⟨fun _ => ?_, (fun h => by cases h), h3⟩
    obtain ⟨A3, c3, rfl, h4, h5⟩ := Kd.R_reads h2
    exact ⟨A3, c3, h1, h4, h5⟩
theorem encL_by {k : Int} {xs : List S57} {ys : List S61} {t : ByteArray} {n : Int} (h : Pure.rightB k xs ys t n = true) : (Pure.encL k xs ys t n).all isB = true := Pure.sealL_bytes (Pure.padL_all (Pure.bodyL_all k xs ys t n))
theorem equal_same {a b : List Int} (ha : a.all isB = true) (hb : b.all isB = true) : ((strOfNums a).toList == (strOfNums b).toList) = decide (a = b) := by
  rw [Bool.eq_iff_iff, beq_iff_eq, Pure.toList_inj, decide_eq_true_iff]
  exact ⟨fun h => by rw [← Pure.bytes_str ha, ← Pure.bytes_str hb, h], fun h => by rw [h]⟩
theorem bequal_any {w : World} {A0 A1 : Option Addr} {c0 c1 : Nat} {a b : List Int} (r : Bool) (ha : a.all isB = true) (hb : b.all isB = true) (hr : decide (a = b) = r) (h0 : Kd.C (Kd.int .u8) w A0 a.length a) (hc0 : a.length ≤ c0) (h1 : Kd.C (Kd.int .u8) w A1 b.length b) (hc1 : b.length ≤ c1) :
    Calls Try.prog 27 #[.slice A0 a.length c0, .slice A1 b.length c1] w fun e w' => e = .returned (.bool r) ∧ Drawn0 w w' :=
  bytes_Equal.calls A0 c0 a A1 c1 b r w h0 hc0 h1 hc1 (by unfold bytes_Equal.f; rw [equal_same ha hb, hr])
set_option maxRecDepth 100000 in
set_option maxHeartbeats 4000000 in
theorem dec_page {w : World} {A : Option Addr} {c : Nat} {l : List Int} (hl : l.length = 256) (hC : (Kd.int .u8).C w A l.length l) (hc : l.length ≤ c) (hB : l.all isB = true) (ho : Pure.opened l = true) : Calls Try.prog 10 #[.slice A l.length c] w (DecOut w (decL l)) := by
  have z1 : ((l.length : Int) != 256) = false := by simp; omega
  have hb1 : Below w.heap.size w (w.alloc (.cells (pageV 0 nilV nilV ⟨#[]⟩ 0) 26)) := below_alloc (Below.refl _ _) _
  have HO := Aside0.mk (open_any hl (Kd.C_below hC hb1) hc hB)
  rw [ho] at HO
  have HN : Aside0 ((l.take 252).length = 252) := ⟨by rw [List.length_take, hl]; rfl⟩
  have HI : Aside0 (isBy (l.take 252)) := ⟨isBy_take (isBy_all hB) _⟩
  have HE : Aside0 (decL l = if (parseP (l.take 252)).2.e ≠ 0 then (page0, 3) else if okP (parseP (l.take 252)).1 l = true then ((parseP (l.take 252)).1, 0) else (page0, 3)) := ⟨by unfold decL; rw [if_neg (by omega), if_neg (by rw [ho]; decide)]⟩
  have HC0 := Aside0.mk hC
  have HL := Aside0.mk hl
  have HB1 := Aside0.mk hb1
  have HD1 : Aside0 ((w.alloc (.cells (pageV 0 nilV nilV ⟨#[]⟩ 0) 26)).heap[w.heap.size]? = some (.cells (pageV 0 nilV nilV ⟨#[]⟩ 0) 26 (0, 0))) := ⟨blk_new _ _⟩
  have HCC := Aside0.mk hc
  have HBB := Aside0.mk hB
  generalize hp : parseP (l.take 252) = pr at HE
  have HP := Aside0.mk hp
  generalize h0 : l.take 252 = l0 at HN HI HP
  have HT := Aside0.mk h0
  generalize decL l = D at HE ⊢
  clear hC hb1 hl ho hB hc hp h0
  go_enter Try.func10, Try.ntmps10
  go_upto_block 0 with (first | (go_at_call 20; refine HO.out.mono ?_; rintro e w2 ⟨hff, h1, hb⟩; obtain ⟨A2, c2, rfl, hc2, hC2⟩ := h1 rfl; rw [HT.out] at hC2; have HB2 := Aside0.mk (below_step HB1.out hb); have HD2 := Aside0.mk (blk_below HD1.out hb); have HC2 := Aside0.mk hC2; have HCc := Aside0.mk hc2; have HLT := Aside0.mk (blk_lt HD2.out); clear hb h1 hc2 hC2 hff) | (go_at_call 21; refine (read_n HN.out HC2.out HCc.out (by omega) HI.out).mono ?_; rintro e w3 ⟨g, rfl, hb, hr⟩; have HB3 := Aside0.mk (below_step HB2.out hb); have HD3 := Aside0.mk (blk_below HD2.out hb); have HR3 := Aside0.mk hr; clear hb hr) | (go_at_call 22; refine (Take8_any HR3.out).mono ?_; rintro e w4 ⟨rfl, ho, hr⟩; have HI4 := Aside0.mk (PInv.start (rNum l0 ⟨0, 0⟩ 1).1 (ho.below HB3.out (Nat.le_trans (Nat.le_of_lt HLT.out) HR3.out.base) HB3.out.size) (blk_only HD3.out ho (Nat.ne_of_lt (Nat.lt_of_lt_of_le HLT.out HR3.out.base))) hr HLT.out); clear ho hr))
  generalize w4.alloc (.cells #[.int .i64 (rNum l0 ⟨0, 0⟩ 1).1, .slice none 0 0, .slice none 0 0, .string ⟨#[]⟩, .int .i64 0] 26) = W5 at HI4 ⊢
  generalize w4.heap.size = q at HI4 ⊢
  generalize w2.heap.size = bs at HI4
  clear HR3 HB3 HD3 HB2 HD2 HC2 HCc HLT HD1 HB1 HO HN
  have HK0 : Aside0 (rNum l0 ⟨0, 0⟩ 1 = ((rNum l0 ⟨0, 0⟩ 1).1, (rNum l0 ⟨0, 0⟩ 1).2)) := ⟨rfl⟩
  generalize (rNum l0 ⟨0, 0⟩ 1).1 = k1 at HI4 HK0 ⊢
  generalize (rNum l0 ⟨0, 0⟩ 1).2 = s1 at HI4 HK0
  have HK := HK0
  clear HK0
  go_cut [] (fun wc => CutRel w bs g q l0 pr wc)
  case first =>
    clear HE
    by_cases k_1 : k1 = 1
    · subst k_1
      have hb255 := (rNum1_range HI.out s1)
      have HT8 := Aside0.mk (Take8_any HI4.out.rd)
      obtain ⟨N, hN0⟩ : ∃ N : Nat, (rNum l0 s1 1).1 = (N : Int) := ⟨(rNum l0 s1 1).1.toNat, by omega⟩
      have hN : N ≤ 255 := by omega
      obtain ⟨s2, hs2⟩ : ∃ s2, s2 = (rNum l0 s1 1).2 := ⟨_, rfl⟩
      have HPR := Aside0.mk (HP.out.symm.trans (parse_leaf (s2 := s2) (N := N) HK.out (by rw [hs2, ← hN0])))
      replace HT8 : Aside0 (Calls Try.prog 22 #[.pointer (some ⟨g, 0, none⟩)] W5 fun e w' => e = .returned (.int .i64 (N : Int)) ∧ Only W5 w' g ∧ Rd w' bs g l0 s2) := ⟨by have := HT8.out; unfold NumOut at this; rw [hN0, ← hs2] at this; exact this⟩
      clear hN0 hs2 hb255
      go_wp2_with (go_at_call 22; (with_reducible refine HT8.out.mono ?_); rintro e w6 ⟨rfl, ho, hr⟩; have HI6 := Aside0.mk (HI4.out.only ho hr); clear ho hr)
      go_loopw [34] (fun i wr => LeafRel w bs g q l0 s2 N i wr) (fun i _ => N - (intOf i).toNat)
      case atStart => exact ⟨0, _, Nat.zero_le _, rfl, HI6.out⟩
      case round =>
        obtain ⟨k, v1, hk, rfl, hP⟩ := hrel
        by_cases hlt : k < N
        · have HKL : Aside0 ((cellsK l0 s2 k).1.length ≤ 1000) := ⟨by rw [cellsK_len]; omega⟩
          have HSN : Aside0 (cellsK l0 s2 (k + 1) = ((cellsK l0 s2 k).1 ++ [(takeC l0 (cellsK l0 s2 k).2).1], (takeC l0 (cellsK l0 s2 k).2).2)) := ⟨rfl⟩
          obtain ⟨X, sk, ca, cb, cc, cd, s4, hs⟩ : ∃ X sk ca cb cc cd s4, LeafStep l0 s2 k X sk ca cb cc cd s4 := leafStep l0 s2 k
          rw [hs.x, hs.s] at hP
          rw [hs.x] at HKL
          have HS := Aside0.mk hs
          have HPd := Aside0.mk (hP.mem (below_drew (Below.refl _ _)))
          have HCALL : Aside0 (∀ W, Rd W bs g l0 sk → Calls Try.prog 23 #[.pointer (some ⟨g, 0, none⟩)] W fun e w' => e = .returned (.agg #[.string ca, .string cb, .int .i64 cc, .int .i64 cd]) ∧ Only W w' g ∧ Rd w' bs g l0 s4) := ⟨fun W h => by have := takeCell_any h; rw [hs.t] at this; exact this⟩
          have hcl := hP.cells
          obtain ⟨c0, cc1, cc2, c3, c4, cf⟩ := hcl
          clear hP hs HSN
          go_wp2
          refine start_ (n := 8) (S := fun _ => True) (ds := []) #[false, false, false, false, false, false, false, false] (by kernel_rfl) rfl rfl trivial (fun hHeld => ?_)
          clear hHeld
          refine with_tabW dec12_tab dec12_bits (fun HT_ HW_ => ?_)
          refine pure_ (i := 0) (N := (some 36)) (v := ?_) (a' := ?_) #[true, false, false, false, false, false, false, false] rfl rfl (any_of HT_.out (by kernel_rfl)) (fun _ _ _ h => h) (Or.inl ⟨by rfl, ?_⟩) ?_ ?_
          rotate_left
          · intro w'
            go_simp
            with_reducible rfl
          rotate_left
          · simp only [Act.put, List.setIfInBounds_toArray, List.set_cons_zero, List.set_cons_succ, i64_w, i32_w]
            rfl
          refine pure_ (i := 2) (N := (some 38)) (v := ?_) (a' := ?_) #[true, false, true, false, false, false, false, false] rfl rfl (any_of HT_.out (by kernel_rfl)) (fun _ _ _ h => h) (Or.inl ⟨by rfl, ?_⟩) ?_ ?_
          rotate_left
          · intro w'
            go_simp
            with_reducible rfl
          rotate_left
          · simp only [Act.put, List.setIfInBounds_toArray, List.set_cons_zero, List.set_cons_succ, i64_w, i32_w]
            rfl
          refine two_ (i := 1) (j := 3) (Ni := (some 37)) (Nj := (some 39)) #[true, true, true, false, false, false, false, false] #[true, false, true, true, false, false, false, false] rfl rfl rfl rfl (two_of HT_.out (by kernel_rfl)) (by decide) (by decide) (fun K hK => ?_) (fun K hK => ?_)
          · have hcell := (HPd.out.cells).2.1
            refine value_ (w1 := wr.drew) (v := v1) (by rfl) rfl ?_ ?_
            · go_simp
              try rfl
            clear hcell
            refine hK.out _ _ trivial (fun _ => ?_)
            clear hK K
            try simp only [Act.put, List.setIfInBounds_toArray, List.set_cons_zero, List.set_cons_succ]
            refine one_ (i := 3) (N := (some 39)) #[true, true, true, true, false, false, false, false] rfl rfl (one_of HT_.out (by kernel_rfl)) (by decide) (fun K hK => ?_)
            refine goes_ Try.func23 (by kernel_rfl) rfl #[.pointer (some ⟨g, 0, none⟩)] (by rfl) rfl rfl (by simp only [List.map_toArray, List.map_cons, List.map_nil]; rfl) ?_
            refine (HCALL.out _ HPd.out.rd).mono ?_
            rintro e we ⟨rfl, ho, hr⟩
            refine ⟨_, rfl, ?_⟩
            have HPe := Aside0.mk (HPd.out.only ho hr)
            have HPf := Aside0.mk (HPe.out.mem (below_alloc (Below.refl _ _) (.cells #[.string ca, .string cb, .int .i64 cc, .int .i64 cd] 57)))
            clear ho hr
            refine hK.out _ _ trivial (fun _ => ?_)
            clear hK K
            try simp only [Act.put, List.setIfInBounds_toArray, List.set_cons_zero, List.set_cons_succ]
            refine one_ (i := 4) (N := (some 40)) #[true, true, true, true, true, false, false, false] rfl rfl (one_of HT_.out (by kernel_rfl)) (by decide) (fun K hK => ?_)
            refine value_ (w1 := (we.alloc (.cells #[.string ca, .string cb, .int .i64 cc, .int .i64 cd] 57))) (v := .slice (some ⟨we.heap.size, 0, none⟩) 1 1) (by rfl) rfl ?_ ?_
            · go_simp
              try rfl
            refine hK.out _ _ trivial (fun _ => ?_)
            clear hK K
            try simp only [Act.put, List.setIfInBounds_toArray, List.set_cons_zero, List.set_cons_succ]
            refine one_ (i := 5) (N := (some 41)) #[true, true, true, true, true, true, false, false] rfl rfl (one_of HT_.out (by kernel_rfl)) (by decide) (fun K hK => ?_)
            obtain ⟨v7, w7, hr, hO, hgr, _⟩ := app_cells (c := (ca, cb, cc, cd)) HPf.out.o1 (blk_new _ _) HPf.out.qlt HKL.out
            obtain ⟨A7, c7, h7⟩ := own_slice hO
            subst h7
            have HPG := Aside0.mk (HPf.out.appC hO hgr)
            have HBG := Aside0.mk (HPf.out.grownblk hgr)
            refine value_ (w1 := w7) (v := .slice A7 (X.length + 1) c7) (by rfl) rfl (run_app_op _ _ _ _ 23 rfl rfl rfl hr) ?_
            clear hr hO hgr
            refine hK.out _ _ trivial (fun _ => ?_)
            clear hK K
            try simp only [Act.put, List.setIfInBounds_toArray, List.set_cons_zero, List.set_cons_succ]
            refine pure_ (i := 6) (N := (some 42)) (v := ?_) (a' := ?_) #[true, true, true, true, true, true, true, false] rfl rfl (any_of HT_.out (by kernel_rfl)) (fun _ _ _ h => h) (Or.inl ⟨by rfl, ?_⟩) ?_ ?_
            rotate_left
            · intro w'
              go_simp
              with_reducible rfl
            rotate_left
            · simp only [Act.put, List.setIfInBounds_toArray, List.set_cons_zero, List.set_cons_succ, i64_w, i32_w]
              rfl
            refine one_ (i := 7) (N := none) #[true, true, true, true, true, true, true, true] rfl rfl (one_of HT_.out (by kernel_rfl)) (by decide) (fun K hK => ?_)
            have hcell := (five_cells HBG.out).2.1
            have hfr := (five_cells HBG.out).2.2.2.2.2 1
            refine skip_ (w1 := w7.setCell ⟨q, 1, none⟩ (.slice A7 (X.length + 1) c7)) (by rfl) rfl ?_ ?_
            · go_simp
              try rfl
            clear hcell hfr
            refine hK.out _ _ trivial (fun _ => ?_)
            clear hK K
            try simp only [Act.put, List.setIfInBounds_toArray, List.set_cons_zero, List.set_cons_succ]
            refine done_ (done_of HT_.out (by kernel_rfl)) ?_
            go_wp2
            go_roundw
            case rel => exact ⟨k + 1, _, hlt, by go_num, by rw [HS.out.x2, HS.out.s2']; exact HPG.out⟩
            case measure => simp [intOf]; omega
          · refine goes_ Try.func23 (by kernel_rfl) rfl #[.pointer (some ⟨g, 0, none⟩)] (by rfl) rfl rfl (by simp only [List.map_toArray, List.map_cons, List.map_nil]; rfl) ?_
            refine (HCALL.out _ HPd.out.rd).mono ?_
            rintro e we ⟨rfl, ho, hr⟩
            refine ⟨_, rfl, ?_⟩
            have HPe := Aside0.mk (HPd.out.only ho hr)
            have HPf := Aside0.mk (HPe.out.mem (below_alloc (Below.refl _ _) (.cells #[.string ca, .string cb, .int .i64 cc, .int .i64 cd] 57)))
            clear ho hr
            refine hK.out _ _ trivial (fun _ => ?_)
            clear hK K
            try simp only [Act.put, List.setIfInBounds_toArray, List.set_cons_zero, List.set_cons_succ]
            refine two_ (i := 1) (j := 4) (Ni := (some 37)) (Nj := (some 40)) #[true, true, true, true, false, false, false, false] #[true, false, true, true, true, false, false, false] rfl rfl rfl rfl (two_of HT_.out (by kernel_rfl)) (by decide) (by decide) (fun K hK => ?_) (fun K hK => ?_)
            · have hcell := (HPe.out.cells).2.1
              refine value_ (w1 := we) (v := v1) (by rfl) rfl ?_ ?_
              · go_simp
                try rfl
              clear hcell
              refine hK.out _ _ trivial (fun _ => ?_)
              clear hK K
              try simp only [Act.put, List.setIfInBounds_toArray, List.set_cons_zero, List.set_cons_succ]
              refine one_ (i := 4) (N := (some 40)) #[true, true, true, true, true, false, false, false] rfl rfl (one_of HT_.out (by kernel_rfl)) (by decide) (fun K hK => ?_)
              refine value_ (w1 := (we.alloc (.cells #[.string ca, .string cb, .int .i64 cc, .int .i64 cd] 57))) (v := .slice (some ⟨we.heap.size, 0, none⟩) 1 1) (by rfl) rfl ?_ ?_
              · go_simp
                try rfl
              refine hK.out _ _ trivial (fun _ => ?_)
              clear hK K
              try simp only [Act.put, List.setIfInBounds_toArray, List.set_cons_zero, List.set_cons_succ]
              refine one_ (i := 5) (N := (some 41)) #[true, true, true, true, true, true, false, false] rfl rfl (one_of HT_.out (by kernel_rfl)) (by decide) (fun K hK => ?_)
              obtain ⟨v7, w7, hr, hO, hgr, _⟩ := app_cells (c := (ca, cb, cc, cd)) HPf.out.o1 (blk_new _ _) HPf.out.qlt HKL.out
              obtain ⟨A7, c7, h7⟩ := own_slice hO
              subst h7
              have HPG := Aside0.mk (HPf.out.appC hO hgr)
              have HBG := Aside0.mk (HPf.out.grownblk hgr)
              refine value_ (w1 := w7) (v := .slice A7 (X.length + 1) c7) (by rfl) rfl (run_app_op _ _ _ _ 23 rfl rfl rfl hr) ?_
              clear hr hO hgr
              refine hK.out _ _ trivial (fun _ => ?_)
              clear hK K
              try simp only [Act.put, List.setIfInBounds_toArray, List.set_cons_zero, List.set_cons_succ]
              refine pure_ (i := 6) (N := (some 42)) (v := ?_) (a' := ?_) #[true, true, true, true, true, true, true, false] rfl rfl (any_of HT_.out (by kernel_rfl)) (fun _ _ _ h => h) (Or.inl ⟨by rfl, ?_⟩) ?_ ?_
              rotate_left
              · intro w'
                go_simp
                with_reducible rfl
              rotate_left
              · simp only [Act.put, List.setIfInBounds_toArray, List.set_cons_zero, List.set_cons_succ, i64_w, i32_w]
                rfl
              refine one_ (i := 7) (N := none) #[true, true, true, true, true, true, true, true] rfl rfl (one_of HT_.out (by kernel_rfl)) (by decide) (fun K hK => ?_)
              have hcell := (five_cells HBG.out).2.1
              have hfr := (five_cells HBG.out).2.2.2.2.2 1
              refine skip_ (w1 := w7.setCell ⟨q, 1, none⟩ (.slice A7 (X.length + 1) c7)) (by rfl) rfl ?_ ?_
              · go_simp
                try rfl
              clear hcell hfr
              refine hK.out _ _ trivial (fun _ => ?_)
              clear hK K
              try simp only [Act.put, List.setIfInBounds_toArray, List.set_cons_zero, List.set_cons_succ]
              refine done_ (done_of HT_.out (by kernel_rfl)) ?_
              go_wp2
              go_roundw
              case rel => exact ⟨k + 1, _, hlt, by go_num, by rw [HS.out.x2, HS.out.s2']; exact HPG.out⟩
              case measure => simp [intOf]; omega
            · refine value_ (w1 := (we.alloc (.cells #[.string ca, .string cb, .int .i64 cc, .int .i64 cd] 57))) (v := .slice (some ⟨we.heap.size, 0, none⟩) 1 1) (by rfl) rfl ?_ ?_
              · go_simp
                try rfl
              refine hK.out _ _ trivial (fun _ => ?_)
              clear hK K
              try simp only [Act.put, List.setIfInBounds_toArray, List.set_cons_zero, List.set_cons_succ]
              refine one_ (i := 1) (N := (some 37)) #[true, true, true, true, true, false, false, false] rfl rfl (one_of HT_.out (by kernel_rfl)) (by decide) (fun K hK => ?_)
              have hcell := (HPf.out.cells).2.1
              refine value_ (w1 := (we.alloc (.cells #[.string ca, .string cb, .int .i64 cc, .int .i64 cd] 57))) (v := v1) (by rfl) rfl ?_ ?_
              · go_simp
                try rfl
              clear hcell
              refine hK.out _ _ trivial (fun _ => ?_)
              clear hK K
              try simp only [Act.put, List.setIfInBounds_toArray, List.set_cons_zero, List.set_cons_succ]
              refine one_ (i := 5) (N := (some 41)) #[true, true, true, true, true, true, false, false] rfl rfl (one_of HT_.out (by kernel_rfl)) (by decide) (fun K hK => ?_)
              obtain ⟨v7, w7, hr, hO, hgr, _⟩ := app_cells (c := (ca, cb, cc, cd)) HPf.out.o1 (blk_new _ _) HPf.out.qlt HKL.out
              obtain ⟨A7, c7, h7⟩ := own_slice hO
              subst h7
              have HPG := Aside0.mk (HPf.out.appC hO hgr)
              have HBG := Aside0.mk (HPf.out.grownblk hgr)
              refine value_ (w1 := w7) (v := .slice A7 (X.length + 1) c7) (by rfl) rfl (run_app_op _ _ _ _ 23 rfl rfl rfl hr) ?_
              clear hr hO hgr
              refine hK.out _ _ trivial (fun _ => ?_)
              clear hK K
              try simp only [Act.put, List.setIfInBounds_toArray, List.set_cons_zero, List.set_cons_succ]
              refine pure_ (i := 6) (N := (some 42)) (v := ?_) (a' := ?_) #[true, true, true, true, true, true, true, false] rfl rfl (any_of HT_.out (by kernel_rfl)) (fun _ _ _ h => h) (Or.inl ⟨by rfl, ?_⟩) ?_ ?_
              rotate_left
              · intro w'
                go_simp
                with_reducible rfl
              rotate_left
              · simp only [Act.put, List.setIfInBounds_toArray, List.set_cons_zero, List.set_cons_succ, i64_w, i32_w]
                rfl
              refine one_ (i := 7) (N := none) #[true, true, true, true, true, true, true, true] rfl rfl (one_of HT_.out (by kernel_rfl)) (by decide) (fun K hK => ?_)
              have hcell := (five_cells HBG.out).2.1
              have hfr := (five_cells HBG.out).2.2.2.2.2 1
              refine skip_ (w1 := w7.setCell ⟨q, 1, none⟩ (.slice A7 (X.length + 1) c7)) (by rfl) rfl ?_ ?_
              · go_simp
                try rfl
              clear hcell hfr
              refine hK.out _ _ trivial (fun _ => ?_)
              clear hK K
              try simp only [Act.put, List.setIfInBounds_toArray, List.set_cons_zero, List.set_cons_succ]
              refine done_ (done_of HT_.out (by kernel_rfl)) ?_
              go_wp2
              go_roundw
              case rel => exact ⟨k + 1, _, hlt, by go_num, by rw [HS.out.x2, HS.out.s2']; exact HPG.out⟩
              case measure => simp [intOf]; omega
        · have hkN : k = N := by omega
          subst hkN
          go_wp2
          go_meet
          case rel =>
            unfold CutRel
            rw [HPR.out]
            exact ⟨v1, nilV, by rw [cellsK_len]; exact hN, Nat.zero_le _, hP⟩
    by_cases k_2 : k1 = 2
    · subst k_2
      clear k_1
      have hb255 := (rNum1_range HI.out s1)
      have HT8 := Aside0.mk (Take8_any HI4.out.rd)
      obtain ⟨N, hN0⟩ : ∃ N : Nat, (rNum l0 s1 1).1 = (N : Int) := ⟨(rNum l0 s1 1).1.toNat, by omega⟩
      have hN : N ≤ 255 := by omega
      obtain ⟨s2, hs2⟩ : ∃ s2, s2 = (rNum l0 s1 1).2 := ⟨_, rfl⟩
      have HPR := Aside0.mk (HP.out.symm.trans (parse_branch (s2 := s2) (N := N) HK.out (by rw [hs2, ← hN0])))
      replace HT8 : Aside0 (Calls Try.prog 22 #[.pointer (some ⟨g, 0, none⟩)] W5 fun e w' => e = .returned (.int .i64 (N : Int)) ∧ Only W5 w' g ∧ Rd w' bs g l0 s2) := ⟨by have := HT8.out; unfold NumOut at this; rw [hN0, ← hs2] at this; exact this⟩
      clear hN0 hs2 hb255
      go_wp2_with (go_at_call 22; (with_reducible refine HT8.out.mono ?_); rintro e w6 ⟨rfl, ho, hr⟩; have HI6 := Aside0.mk (HI4.out.only ho hr); clear ho hr)
      go_loopw [48] (fun i wr => BranchRel w bs g q l0 s2 N i wr) (fun i _ => N - (intOf i).toNat)
      case atStart => exact ⟨0, _, Nat.zero_le _, rfl, HI6.out⟩
      case round =>
        obtain ⟨k, v2, hk, rfl, hP⟩ := hrel
        by_cases hlt : k < N
        · have HKL : Aside0 ((kidsK l0 s2 k).1.length ≤ 1000) := ⟨by rw [kidsK_len]; omega⟩
          obtain ⟨Y, sk, S, n, s3, s4, hs⟩ := kidStep l0 s2 k
          rw [hs.x, hs.s] at hP
          rw [hs.x] at HKL
          have HS := Aside0.mk hs
          have HPd := Aside0.mk hP
          have HTX : Aside0 (Calls Try.prog 24 #[.pointer (some ⟨g, 0, none⟩), .int .i64 24] wr fun e w' => e = .returned (.string S) ∧ Only wr w' g ∧ Rd w' bs g l0 s3) := ⟨by have := Text_any hP.rd 24; unfold TextOut at this; rw [hs.t, hs.ts] at this; exact this⟩
          have HTK : Aside0 (∀ W, Rd W bs g l0 s3 → Calls Try.prog 25 #[.pointer (some ⟨g, 0, none⟩)] W fun e w' => e = .returned (.int .i64 n) ∧ Only W w' g ∧ Rd w' bs g l0 s4) := ⟨fun W h => by have := Take16_any h; unfold NumOut at this; rw [hs.nn, hs.ns] at this; exact this⟩
          clear hP hs
          go_wp2_with (first | (go_at_call 24; (with_reducible refine HTX.out.mono ?_); rintro e w6 ⟨rfl, ho, hr⟩; have HP5 := Aside0.mk (HPd.out.only ho hr); have HP6 := Aside0.mk (HP5.out.mem (below_alloc (Below.refl _ _) (.cells #[.string S, .int .i64 0] 61))); have HG6 : Aside0 ((w6.alloc (.cells #[.string S, .int .i64 0] 61)).heap[w6.heap.size]? = some (.cells #[.string S, .int .i64 0] 61 (0, 0))) := ⟨blk_new _ _⟩; have HV := Aside0.mk (HP5.out.v2lt); have HNE : Aside0 (w6.heap.size ≠ g) := ⟨by have := HP5.out.gq; have := HP5.out.qlt; omega⟩; have hne : w6.heap.size ≠ q := (by have := HP5.out.qlt; omega); clear ho hr) | (go_at_call 25; (with_reducible refine (HTK.out _ HP6.out.rd).mono ?_); rintro e w7 ⟨rfl, ho, hr⟩; have HP7 := Aside0.mk (HP6.out.only ho hr); have HG7 := Aside0.mk (blk_only HG6.out ho HNE.out); have HP8 := Aside0.mk (HP7.out.setFar HP5.out.qlt HV.out HG7.out 1 (.int .i64 n)); have HG8 : Aside0 ((w7.setCell ⟨w6.heap.size, 1, none⟩ (.int .i64 n)).heap[w6.heap.size]? = some (.cells #[.string S, .int .i64 n] 61 (0, 0))) := ⟨blk_put HG7.out 1 _ rfl⟩; have HP9 := Aside0.mk (HP8.out.mem (below_alloc (Below.refl _ _) (.cells #[.string S, .int .i64 n] 61))); obtain ⟨v9, w9, hrun, hO, hgr, hown⟩ := app_kids (c := (S, n)) HP9.out.o2 (blk_new_set w7 ⟨w6.heap.size, 1, none⟩ (.int .i64 n) _) HP9.out.qlt HKL.out; obtain ⟨A9, c9, h9⟩ := own_slice hO; subst h9; have HPG := Aside0.mk (HP9.out.appK hO hgr); have HBG := five_cells (HP9.out.grownblk2 hgr); obtain ⟨x0, x1, x2, x3, x4, xf⟩ := HBG; have y0 := blk_cell HG7.out 0; have y1 := blk_cell HG7.out 1; have yf := blk_frozen HG7.out; obtain ⟨z0, z1_, z2, z3, z4, zf⟩ := five_cells HP7.out.blk; have HRUN := Aside0.mk hrun; clear ho hr hO hgr hown hrun) | (at_builtin; refine wp_app rfl _ _ (.tmp 57) (.tmp 59) 24 rfl rfl rfl HRUN.out ?_))
          go_roundw
          case rel => exact ⟨k + 1, _, hlt, by go_num, by rw [HS.out.x2, HS.out.s2']; exact HPG.out⟩
          case measure => simp [intOf]; omega
        · have hkN : k = N := by omega
          subst hkN
          go_wp2
          go_meet
          case rel =>
            unfold CutRel
            rw [HPR.out]
            exact ⟨nilV, v2, Nat.zero_le _, by rw [kidsK_len]; exact hN, hP⟩
    by_cases k_3 : k1 = 3
    · subst k_3
      clear k_1 k_2
      obtain ⟨S, hS⟩ : ∃ S, S = strOfNums (rText l0 s1 240).1 := ⟨_, rfl⟩
      obtain ⟨s2, hs2⟩ : ∃ s2, s2 = (rText l0 s1 240).2 := ⟨_, rfl⟩
      obtain ⟨n, hn⟩ : ∃ n, n = (rNum l0 s2 2).1 := ⟨_, rfl⟩
      obtain ⟨s3, hs3⟩ : ∃ s3, s3 = (rNum l0 s2 2).2 := ⟨_, rfl⟩
      have HPR : Aside0 (pr = ((3, [], [], S, n), s3)) := ⟨HP.out.symm.trans (by rw [parse_chain (x := (rText l0 s1 240).1) (s2 := s2) (n := n) (s3 := s3) HK.out (by rw [hs2]) (by rw [hn, hs3]), hS])⟩
      have HTX : Aside0 (Calls Try.prog 24 #[.pointer (some ⟨g, 0, none⟩), .int .i64 240] W5 fun e w' => e = .returned (.string S) ∧ Only W5 w' g ∧ Rd w' bs g l0 s2) := ⟨by have := Text_any HI4.out.rd 240; unfold TextOut at this; rw [← hS, ← hs2] at this; exact this⟩
      have HTK : Aside0 (∀ W, Rd W bs g l0 s2 → Calls Try.prog 25 #[.pointer (some ⟨g, 0, none⟩)] W fun e w' => e = .returned (.int .i64 n) ∧ Only W w' g ∧ Rd w' bs g l0 s3) := ⟨fun W h => by have := Take16_any h; unfold NumOut at this; rw [← hn, ← hs3] at this; exact this⟩
      clear hS hs2 hn hs3
      go_wp2_with (first | (go_at_call 24; (with_reducible refine HTX.out.mono ?_); rintro e w6 ⟨rfl, ho, hr⟩; have HP6 := Aside0.mk (HI4.out.only ho hr); have HP7 := Aside0.mk (HP6.out.put 3 (.string S) rfl); obtain ⟨x0, x1, x2, x3, x4, xf⟩ := five_cells HP6.out.blk; clear ho hr) | (go_at_call 25; (with_reducible refine (HTK.out _ HP7.out.rd).mono ?_); rintro e w7 ⟨rfl, ho, hr⟩; have HP8 := Aside0.mk (HP7.out.only ho hr); have HP9 := Aside0.mk (HP8.out.put 4 (.int .i64 n) rfl); obtain ⟨y0, y1, y2, y3, y4, yf⟩ := five_cells HP8.out.blk; clear ho hr))
      go_meet
      case rel =>
        unfold CutRel
        rw [HPR.out]
        exact ⟨nilV, nilV, Nat.zero_le _, Nat.zero_le _, HP9.out⟩
    have z_1 : (k1 == 1) = false := beq_eq_false_iff_ne.2 k_1
    have z_2 : (k1 == 2) = false := beq_eq_false_iff_ne.2 k_2
    have z_3 : (k1 == 3) = false := beq_eq_false_iff_ne.2 k_3
    have HPR := Aside0.mk (HP.out.symm.trans (parse_none HK.out k_1 k_2 k_3))
    clear k_1 k_2 k_3
    go_wp2
    go_meet
    case rel =>
      unfold CutRel
      rw [HPR.out]
      exact ⟨nilV, nilV, Nat.zero_le _, Nat.zero_le _, HI4.out⟩
  case rest =>
    rename World => wc
    obtain ⟨v1, v2, hx, hy, h⟩ := hcut
    obtain ⟨⟨k, xs, ys, t, n⟩, s⟩ := pr
    simp only at hx hy h HE
    obtain ⟨d0, d1, d2, d3, d4, df⟩ := five_cells h.res
    have HRD := Aside0.mk h.rd
    have hq := h.qlt
    have hlo : w.heap.size ≠ q := by have := h.lo; have := h.bg; have := h.gq; omega
    have HQ := Aside0.mk h
    by_cases he : s.e = 0
    · rw [if_neg (by simp [he])] at HE
      have z2 : (s.e != 0) = false := by simp [he]
      have hR1 := cells_R h.o1 (Nat.le_refl _)
      have hR2 := kids_R h.o2 (Nat.le_refl _)
      have hX1 : (xs.map s57).length ≤ 255 := by rw [List.length_map]; exact hx
      have hY1 : (ys.map s61).length ≤ 255 := by rw [List.length_map]; exact hy
      have HOK : Aside0 (okP (k, xs, ys, t, n) l = (Pure.rightB k (xs.map s57) (ys.map s61) t n && decide (Pure.encL k (xs.map s57) (ys.map s61) t n = l))) := ⟨rfl⟩
      generalize xs.map s57 = X at hR1 hX1 HOK
      generalize ys.map s61 = Y at hR2 hY1 HOK
      obtain ⟨A1, c1, rfl, hc1, hC1⟩ := Kd.R_reads hR1
      obtain ⟨A3, c3, rfl, hc3, hC3⟩ := Kd.R_reads hR2
      obtain ⟨e0, e1, e2, e3, e4, ef⟩ := five_cells h.blk
      have HEN := Aside0.mk (enc_any k X Y t n hC1 hc1 hC3 hc3 (by omega) (by omega))
      have HLB : Aside0 (Pure.rightB k X Y t n = true → (Pure.encL k X Y t n).all isB = true) := ⟨fun hr => encL_by hr⟩
      generalize Pure.encL k X Y t n = L at HEN HOK HLB
      generalize Pure.rightB k X Y t n = ok at HEN HOK HLB
      clear hc1 hC1 hc3 hC3 hx hy h he hq hR1 hR2 hX1 hY1
      cases ok
      · rw [HOK.out, Bool.false_and, if_neg (by decide)] at HE
        obtain rfl := HE.out
        go_wp2_with (first | (go_at_call 26; refine (Err_rd HRD.out).mono ?_; rintro e w7 ⟨rfl, rfl⟩) | (go_at_call 13; (with_reducible refine HEN.out.mono ?_); rintro e w7 ⟨hf, h1, hb⟩; obtain ⟨A7, c7, rfl⟩ := h1 rfl; have HQ7 := Aside0.mk (HQ.out.mem hb); obtain ⟨f0, f1, f2, f3, f4, ff⟩ := five_cells HQ7.out.res; clear hb h1 hf))
        exact dec_bad 3 HQ7.out.below HQ7.out.res rfl rfl rfl
      · rw [HOK.out, Bool.true_and] at HE
        have HLC := Aside0.mk (HLB.out rfl)
        clear HLB
        by_cases hq : L = l
        · rw [if_pos (decide_eq_true hq)] at HE
          have HE2 := Aside0.mk hq
          clear hq
          obtain rfl := HE.out
          go_wp2_with (first | (go_at_call 26; refine (Err_rd HRD.out).mono ?_; rintro e w7 ⟨rfl, rfl⟩) | (go_at_call 13; (with_reducible refine HEN.out.mono ?_); rintro e w7 ⟨h1, hf, hb⟩; obtain ⟨A7, c7, rfl, hc7, hC7⟩ := h1 rfl; have HQ7 := Aside0.mk (HQ.out.mem hb); have HC7 := Aside0.mk hC7; have HC7c := Aside0.mk hc7; clear hb h1 hf hc7 hC7) | (go_at_call 27; (with_reducible refine (bequal_any true HLC.out HBB.out (decide_eq_true HE2.out) HC7.out HC7c.out (Kd.C_below HC0.out HQ7.out.below) HCC.out).mono ?_); rintro e w8 ⟨rfl, ⟨m, rfl⟩⟩; have HQ8 := Aside0.mk (HQ7.out.mem (pw_below_drewN (Below.refl _ _) m)); obtain ⟨f0, f1, f2, f3, f4, ff⟩ := five_cells HQ8.out.res; obtain ⟨g0, g1, g2, g3, g4, gf⟩ := five_cells HQ8.out.blk))
          exact dec_good HQ8.out rfl rfl rfl
        · rw [if_neg (by simp [hq])] at HE
          have HE2 := Aside0.mk hq
          clear hq
          obtain rfl := HE.out
          go_wp2_with (first | (go_at_call 26; refine (Err_rd HRD.out).mono ?_; rintro e w7 ⟨rfl, rfl⟩) | (go_at_call 13; (with_reducible refine HEN.out.mono ?_); rintro e w7 ⟨h1, hf, hb⟩; obtain ⟨A7, c7, rfl, hc7, hC7⟩ := h1 rfl; have HQ7 := Aside0.mk (HQ.out.mem hb); have HC7 := Aside0.mk hC7; have HC7c := Aside0.mk hc7; clear hb h1 hf hc7 hC7) | (go_at_call 27; (with_reducible refine (bequal_any false HLC.out HBB.out (decide_eq_false HE2.out) HC7.out HC7c.out (Kd.C_below HC0.out HQ7.out.below) HCC.out).mono ?_); rintro e w8 ⟨rfl, ⟨m, rfl⟩⟩; have HQ8 := Aside0.mk (HQ7.out.mem (pw_below_drewN (Below.refl _ _) m)); obtain ⟨f0, f1, f2, f3, f4, ff⟩ := five_cells HQ8.out.res))
          exact dec_bad 3 HQ8.out.below HQ8.out.res rfl rfl rfl
    · have z2 : (s.e != 0) = true := bne_iff_ne.2 he
      rw [if_pos he] at HE
      clear hq hx hy h he
      obtain rfl := HE.out
      go_wp2_with (go_at_call 26; refine (Err_rd HRD.out).mono ?_; rintro e w7 ⟨rfl, rfl⟩)
      exact dec_bad 3 HQ.out.below HQ.out.res rfl rfl rfl
theorem decode_any {w : World} {A : Option Addr} {c : Nat} {l : List Int} (hC : (Kd.int .u8).C w A l.length l) (hc : l.length ≤ c) (hB : l.all isB = true) (hs : l.length ≤ 140737488355328) : Calls Try.prog 10 #[.slice A l.length c] w (DecOut w (decL l)) := by
  by_cases hl : l.length = 256
  · cases ho : Pure.opened l
    · have : decL l = (page0, 5) := by unfold decL; rw [if_neg (by omega), if_pos ho]
      rw [this]
      exact dec_sum hl hC hc hB ho
    · exact dec_page hl hC hc hB ho
  · have : decL l = (page0, 4) := by unfold decL; rw [if_pos hl]
    rw [this]
    exact dec_long hl hs
end Go.Proofs.Ytgbcfkcnoncgdaa.Hand
namespace Go.Proofs.Ytgbcfkcnoncgdaa.Hand
open Go.RowKit Go.Proofs.Ytgbcfkcnoncgdaa.Sp Go.Proofs.YtgbcfkcnoncgdaaW.PrintWords Go.Proofs.YtgbcfkcnoncgdaaW.PrintLast Go.Proofs.YtgbcfkcnoncgdaaW.PrintMore
def page_Decode.f (_k : Nat) (l0 : List Int) : Option (Int × (List S57) × (List S61) × ByteArray × Int × Int) :=
  if l0.all isB = true ∧ l0.length ≤ 140737488355328 then some ((decL l0).1.1, (decL l0).1.2.1.map s57, (decL l0).1.2.2.1.map s61, (decL l0).1.2.2.2.1, (decL l0).1.2.2.2.2, (decL l0).2) else none
theorem page_Decode.calls (k : Nat) (A0 : Option Addr) (c0 : Nat) (l0 : List Int) (r1 : Int) (r2 : List (S57)) (r3 : List (S61)) (r4 : ByteArray) (r5 : Int) (r6 : Int) (w : World) (hr0 : Kd.C (Kd.int .u8) w A0 l0.length l0) (hc0 : l0.length ≤ c0) (h : page_Decode.f k l0 = some (r1, r2, r3, r4, r5, r6)) :
    Calls Try.prog 10 #[.slice A0 l0.length c0] w fun e w' => ∃ v1_ v2_ : Value, e = .returned (.tuple #[.agg #[.int .i64 r1, v1_, v2_, .string r4, .int .i64 r5], .int .i64 r6]) ∧ Kd.R k57 57 w' w.heap.size (fun _ => True) v1_ r2 ∧ Kd.R k61 61 w' w.heap.size (fun _ => True) v2_ r3 ∧ Below w.heap.size w w' := by
  unfold page_Decode.f at h
  by_cases hg : l0.all isB = true ∧ l0.length ≤ 140737488355328
  · rw [if_pos hg] at h
    simp only [Option.some.injEq, Prod.mk.injEq] at h
    obtain ⟨rfl, rfl, rfl, rfl, rfl, rfl⟩ := h
    exact (decode_any hr0 hc0 hg.1 hg.2).mono fun e w' ⟨v1, v2, h1, h2, h3, h4⟩ => ⟨v1, v2, h1, h2, h3, h4⟩
  · rw [if_neg hg] at h
    cases h
end Go.Proofs.Ytgbcfkcnoncgdaa.Hand
