/- append(row, s...), s a string, where the sum may pass 2^47 bytes by a little: the new row's capacity is still below 2^48. -/
import Derived.Test.YtnidooobefoahaaSp0
import Derived.Lib.AppendStr
import Derived.Deep.DeepAppendWide
namespace Go.Proofs.Ytnidooobefoahaa.Hand
open Go.RowKit Go.Proofs.YtnidooobefoahaaW.PrintWords Go.Proofs.YtnidooobefoahaaW.PrintLast Go.Proofs.YtnidooobefoahaaW.PrintMore
set_option linter.unusedVariables false
/-- A new row, made behind one draw. -/
theorem own_new {w : World} {base n cap : Nat} {e : TypeId} {xs : List Value} {C : Array Value} (hb : base ≤ w.heap.size) (hn : n ≤ cap) (hc : cap ≤ maxLen) (hs : C.size = cap) (hl : xs.length = n) (ht : C.toList.take n = xs) (row : Option Nat) :
    (w.drew.alloc (.cells C e)).ownsRow base e 1 (.slice (some ⟨w.heap.size, 0, none⟩) n cap) n xs ∧ w.grownBy (w.drew.alloc (.cells C e)) row :=
  ⟨⟨by omega, .inr ⟨w.heap.size, cap, C, rfl, hb, heap_alloc_new w.drew _, hn, hc, by omega, by rw [Nat.mul_one]; exact ht⟩⟩, ⟨rfl, rfl, rfl, by simp, fun k hk _ => (below_alloc (Below.refl w.drew.heap.size w.drew) _).block k hk⟩⟩
theorem run_append_str_wide (w : World) (base : Nat) (t u ty e : TypeId) (i : TypeInfo) (ht : Try.prog.underlying t = some (.slice e)) (hu : Try.prog.underlying u = some .string) (hi : Try.prog.info? e = some i) (hz : i.zero = some (.int .u8 0)) (hsize : i.size = 1) (hby : i.bytes = 1)
    (v : Value) (n : Nat) (xs : List Value) (hown : w.ownsRow base e 1 v n xs) (s : ByteArray) (hl : n + s.size ≤ 140737488500000) (hbase : base ≤ w.heap.size) :
    ∃ v' w', (Builtin.append_ #[t, u] ty #[v, .string s]).run Try.prog w = .ok v' w' ∧ w'.ownsRow base e 1 v' (n + s.size) (xs ++ Lib.strCells s) ∧ w.grownBy w' v.ownBlock := by
  by_cases hb : n + s.size ≤ 140737488355328
  · obtain ⟨v', w', h1, h2, h3, _⟩ := Lib.run_append_own_string w base t u ty e i ht hu hi hz hsize hby v n xs hown s (by simp only [maxLen]; omega) hb hbase
    exact ⟨v', w', h1, h2, h3⟩
  have hxl : xs.length = n := by have := hown.1; omega
  have hlen : (xs ++ Lib.strCells s).length = n + s.size := by rw [List.length_append, hxl, Lib.strCells_length]
  have hm : n + s.size ≤ maxLen := by simp only [maxLen]; omega
  have hz1 : (Value.int IntKind.u8 0).cells.size = 1 := rfl
  have hsz : (Lib.strCells s).toArray.size = s.size := by rw [List.size_toArray, Lib.strCells_length]
  rcases hown.2 with ⟨rfl, rfl⟩ | ⟨g, cap, cur, rfl, hbg, hg, hnc, hcm, hcs, htake⟩
  · have hx : xs = [] := List.eq_nil_of_length_eq_zero hxl
    subst hx
    rw [Nat.zero_add] at hm hb hlen hl ⊢
    have hr := run_append_nil_string (P := Try.prog) w t u ty e i (.int .u8 0) ht hu hi hz s (by omega) (by omega) (by rw [hby]; omega)
    have e1 : (s.data.map fun b => Value.int .u8 b.toNat) = (Lib.strCells s).toArray := by
      apply Array.ext'
      simp [Lib.strCells]
    rw [e1] at hr
    have hge := grownCap_ge w s.size 0 e
    obtain ⟨o1, o2⟩ := own_new (w := w) (e := e) (C := (Lib.strCells s).toArray ++ Builtin.zeroCells (Value.int IntKind.u8 0).cells (grownCap w s.size 0 e - s.size)) (xs := Lib.strCells s) (n := s.size) (cap := grownCap w s.size 0 e) hbase hge (grownCap_le_maxLen w s.size 0 e hm)
      (by rw [Array.size_append, hsz, size_zeroCells, hz1]; omega) (Lib.strCells_length s) (by rw [Array.toList_append, ← Lib.strCells_length s]; exact List.take_left) (Value.ownBlock (.slice none 0 0))
    exact ⟨_, _, hr, o1, o2⟩
  · by_cases hroom : n + s.size ≤ cap
    · have hcs' : cur.size = cap := by omega
      have hr := Lib.run_append_room_string (P := Try.prog) w t u ty e i ht hu hi hsize g n cap cur hg s hroom (by omega)
      have ht' : cur.toList.take n = xs := by rw [Nat.mul_one] at htake; exact htake
      refine ⟨_, _, hr, ⟨by omega, .inr ⟨g, cap, _, rfl, hbg, setRow_heap w g cur _ e _ hg, hroom, hcm, ?_, ?_⟩⟩, ⟨rfl, rfl, rfl, by simp, fun k _ hk => setRow_other w g k _ (fun e => hk (by simp [Value.ownBlock, e]))⟩⟩
      · simp only [List.size_toArray, List.length_append, List.length_take, List.length_drop, Array.length_toList, Lib.strCells_length]
        omega
      · rw [Nat.mul_one, ht', ← hlen]
        exact List.take_left
    · have holds : ∀ j u, xs[j]? = some u → w.cell? ((⟨g, 0, none⟩ : Addr).add j) = some u := World.ownsRow.cells hown (g := g) rfl
      have hr := Lib.run_append_grow_string (P := Try.prog) w t u ty e i (.int .u8 0) ht hu hi hz ⟨g, 0, none⟩ n cap xs (by rw [hsize]; omega) holds s (by omega) (by omega) (by rw [hby]; exact growslice_fits_wide (by omega) (by omega))
      have hge := grownCap_ge w (n + s.size) cap e
      obtain ⟨o1, o2⟩ := own_new (w := w) (e := e) (C := xs.toArray ++ (Lib.strCells s).toArray ++ Builtin.zeroCells (Value.int IntKind.u8 0).cells (grownCap w (n + s.size) cap e - (n + s.size))) (xs := xs ++ Lib.strCells s) (n := n + s.size) (cap := grownCap w (n + s.size) cap e) hbase hge (grownCap_le_maxLen w (n + s.size) cap e hm)
        (by rw [Array.size_append, Array.size_append, hsz, List.size_toArray, hxl, size_zeroCells, hz1]; omega) hlen (by rw [Array.toList_append, Array.toList_append, ← hlen]; exact List.take_left) (Value.ownBlock (.slice (some ⟨g, 0, none⟩) n cap))
      exact ⟨_, _, hr, o1, o2⟩
theorem append_str_wide {ops : Array Oper} {rest : List Oper} {o : Oper} {a : Act} {Q : Exit → Act → World → Prop} {w0 W : World} (base : Nat) (hgd : o.guard = none) (s x : Operand) (t u e : TypeId)
    (ho : o.op = .call { callee := .builtin .append, args := #[s, x], argTypes := #[t, u] })
    (ht : Try.prog.underlying t = some (.slice e)) (hu : Try.prog.underlying u = some .string) (hinfo : (Try.prog.info? e).map (fun i => (i.zero, i.size, i.bytes)) = some (some (.int .u8 0), 1, 1))
    (v : Value) (xs : List Int) (y : ByteArray) (hs : a.eval s = v) (hx : a.eval x = .string y)
    (HO : W.ownsRow base e 1 v xs.length (nums .u8 xs)) (HB : Below base w0 W) (hbase : base ≤ W.heap.size) (hl : xs.length + y.size ≤ 140737488500000)
    (h : ∀ v1 w1, w1.ownsRow base e 1 v1 (xs ++ bytesOf y).length (nums .u8 (xs ++ bytesOf y)) → Below base w0 w1 → W.grownBy w1 v.ownBlock → wpList Try.prog ops Q rest (a.put o.dst v1) w1) :
    wpList Try.prog ops Q (o :: rest) a W := by
  obtain ⟨i0, hi, hzz⟩ := Option.map_eq_some_iff.1 hinfo
  simp only [Prod.mk.injEq] at hzz
  obtain ⟨hz0, hz1, hz2⟩ := hzz
  obtain ⟨v1, w1, hr, hown, hg⟩ := run_append_str_wide W base t u o.type e i0 ht hu hi hz0 hz1 hz2 v xs.length (nums .u8 xs) HO y hl hbase
  have hl2 : (xs ++ bytesOf y).length = xs.length + y.size := by rw [List.length_append, bytesOf_length]
  have hc : nums .u8 (xs ++ bytesOf y) = nums .u8 xs ++ Lib.strCells y := by
    rw [nums_append]
    congr 1
    simp [nums, bytesOf, Lib.strCells]
  refine wpList_plain hgd fun K hK => ?_
  unfold Oper.wp execOp
  simp only [ho, resolve, invoke, builtin, Sem.run_bind, Sem.run_pure, Result.andThen_ok, List.map_toArray, List.map_cons, List.map_nil, hs, hx, hr]
  exact hK _ _ (h v1 w1 (by rw [hl2, hc]; exact hown) (HB.grown hg hbase (own_base HO)) hg)
end Go.Proofs.Ytnidooobefoahaa.Hand
