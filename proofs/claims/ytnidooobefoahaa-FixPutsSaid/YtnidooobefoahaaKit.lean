/- Small lemmas on operations that make memory: make with a capacity, []byte(s). -/
import Derived.Test.YtnidooobefoahaaProg
import Derived.Test.YtnidooobefoahaaWMore
import Derived.WalkKit
namespace Go.Proofs.Ytnidooobefoahaa.Hand
open Go.RowKit Go.Proofs.YtnidooobefoahaaW.PrintWords Go.Proofs.YtnidooobefoahaaW.PrintLast Go.Proofs.YtnidooobefoahaaW.PrintMore
set_option linter.unusedVariables false
set_option linter.unusedSimpArgs false

theorem info_u8 : (Try.prog.info? 5).map (fun i => (i.zero, i.size, i.bytes)) = some (some (.int .u8 0), 1, 1) := by kernel_rfl

/-- '<=' and '>' on strings, by '<' alone. -/
theorem bytesLess_flip : ∀ a b : List UInt8, (Op.bytesLess a b || a == b) = !(Op.bytesLess b a)
  | [], [] => rfl
  | [], _ :: _ => rfl
  | _ :: _, [] => rfl
  | x :: a, y :: b => by
    have ih := bytesLess_flip a b
    simp only [Op.bytesLess, List.cons_beq_cons]
    by_cases h : x = y
    · subst h
      have hlt : (decide (x < x)) = false := decide_eq_false (UInt8.lt_irrefl x)
      simp only [hlt, Bool.false_or, beq_self_eq_true, Bool.true_and]
      exact ih
    · have h1 : (x == y) = false := beq_eq_false_iff_ne.2 h
      have h2 : (y == x) = false := beq_eq_false_iff_ne.2 (Ne.symm h)
      simp only [h1, h2, Bool.false_and, Bool.or_false]
      rw [Bool.eq_iff_iff]
      simp only [decide_eq_true_eq, Bool.not_eq_true', decide_eq_false_iff_not, UInt8.lt_iff_toNat_lt]
      have : x.toNat ≠ y.toNat := fun e => h (UInt8.toNat_inj.1 e)
      omega
@[go_sem] theorem string_leq (t : TypeId) (a b : ByteArray) : binOp .leq t (.string a) (.string b) = pure (.bool (!(Op.bytesLess b.toList a.toList))) := by
  rw [← bytesLess_flip]
  simp [binOp, Op.stringOp]
@[go_sem] theorem string_gtr (t : TypeId) (a b : ByteArray) : binOp .gtr t (.string a) (.string b) = pure (.bool (Op.bytesLess b.toList a.toList)) := by
  have h := bytesLess_flip a.toList b.toList
  have h2 : Op.bytesLess b.toList a.toList = !(Op.bytesLess a.toList b.toList || a.toList == b.toList) := by rw [h, Bool.not_not]
  rw [h2]
  simp [binOp, Op.stringOp]

@[go_sem] theorem string_geq (t : TypeId) (a b : ByteArray) : binOp .geq t (.string a) (.string b) = pure (.bool (!(Op.bytesLess a.toList b.toList))) := by
  simp [binOp, Op.stringOp]

section
variable {P : Program} {ops : Array Oper} {rest : List Oper} {o : Oper} {a : Act} {Q : Exit → Act → World → Prop} {α : Type}
/-- make([]T, 0, n): an empty row of the call's own. -/
theorem R_make0 (d : Kd α) {w0 W : World} (base e : Nat) (hgd : o.guard = none) {N : Tmp} (_hd : o.dst = some N) (t : TypeId) (x y : Operand) (ho : o.op = .makeSlice t x y) (n : Int) (hx : a.eval x = .int .i64 0) (hy : a.eval y = .int .i64 n)
    (ht : P.underlying t = some (.slice e)) (z : Value) (bytes : Nat) (hinfo : (P.info? e).map (fun i => (i.zero, i.size, i.bytes)) = some (some z, d.sz, bytes)) (hb0 : 0 < bytes)
    {ok : Nat → Prop} (hfresh : ok W.heap.size) (h0 : 0 ≤ n) (hl : n.toNat * bytes ≤ 281474976710656) (HB : Below base w0 W) (hbase : base ≤ W.heap.size)
    (h : ∀ v1 w1, d.R e w1 base ok v1 [] → Below base w0 w1 → W.grownBy w1 none → (∃ b, v1.ownBlock = some b ∧ W.heap.size ≤ b) → wpList P ops Q rest (a.put o.dst v1) w1) : wpList P ops Q (o :: rest) a W := by
  obtain ⟨m, rfl⟩ := Int.eq_ofNat_of_zero_le h0
  simp only [Int.toNat_natCast] at hl
  obtain ⟨i0, hi, hzz⟩ := Option.map_eq_some_iff.1 hinfo
  simp only [Prod.mk.injEq] at hzz
  obtain ⟨hz0, hz1, hz2⟩ := hzz
  have hm : m ≤ 281474976710656 := Nat.le_trans (Nat.le_mul_of_pos_right _ hb0) hl
  have hr := run_make (P := P) W t e i0 z ht hi hz0 .i64 .i64 0 (m : Int) (Int.le_refl _) (by omega)
    (by
      have h3 : ((i0.bytes * m : Nat) : Int) ≤ 281474976710656 := by rw [hz2, Nat.mul_comm]; omega
      rwa [Int.natCast_mul] at h3) (by omega)
  simp only [Int.toNat_natCast, Int.toNat_zero] at hr
  have hown : (W.alloc (.cells (madeCells z.cells (m * i0.size)) e)).ownsRow base e d.sz (.slice (some ⟨W.heap.size, 0, none⟩) 0 m) 0 [] :=
    World.ownsRow_made W _ m hbase (by unfold maxLen; omega) (by rw [size_madeCells, hz1])
  refine Kd.event_run hgd (by simp [execOp, ho, hx, hy, hr]) (h _ _ ⟨fun k hk => ?_, [], hown, Reps.none _ _⟩ (HB.alloc hbase _) (World.grownBy_alloc W _ none) ⟨W.heap.size, by simp [Value.ownBlock], Nat.le_refl _⟩)
  have : W.heap.size = k := by simpa [Value.ownBlock] using hk
  subst this
  exact hfresh

/-- []byte(s): a row that can be read, in new memory. -/
theorem conv_bytes {w0 W : World} (base : Nat) (hgd : o.guard = none) {N : Tmp} (_hd : o.dst = some N) (src dst e : TypeId) (x : Operand) (ho : o.op = .convert src dst x) (s : ByteArray) (hx : a.eval x = .string s)
    {u : TypeDesc} (hs : P.underlying src = some u) (hd : P.underlying dst = some (.slice e)) (he : P.underlying e = some (.int .u8)) (hz : s.size ≤ 9223372036854775807) (HB : Below base w0 W) (hbase : base ≤ W.heap.size)
    (h : ∀ A c w1, Kd.C (Kd.int .u8) w1 A (bytesOf s).length (bytesOf s) → (bytesOf s).length ≤ c → Below base w0 w1 → Below W.heap.size W w1 → wpList P ops Q rest (a.put o.dst (.slice A (bytesOf s).length c)) w1) : wpList P ops Q (o :: rest) a W := by
  have hr := print_bytes (P := P) src dst e hs hd he s W
  refine Kd.event_run hgd (v := .slice (some ⟨W.heap.size, 0, none⟩) s.size (grownCap W s.size 0 e)) (w1 := Lib.bytesWorld W e s) (by simp [execOp, ho, hx, hr]) ?_
  have hR := bytes_reads W e s hz
  have hge := grownCap_ge W s.size 0 e
  generalize grownCap W s.size 0 e = c at hge ⊢
  rw [← bytesOf_length s] at hR hge ⊢
  refine h _ _ _ (Kd.C_of_reads (d := (0 : Int)) (h1 := fun _ => rfl) ?_) ?_ (bytes_below HB hbase e s) (bytes_below (Below.refl _ _) (Nat.le_refl _) e s)
  · exact hR
  · exact hge
/-- []byte(s), as a row that is only read: it leads to new memory alone. -/
theorem V_bytes {w0 W : World} (base e : Nat) (hgd : o.guard = none) {N : Tmp} (_hd : o.dst = some N) (src dst : TypeId) (x : Operand) (ho : o.op = .convert src dst x) (s : ByteArray) (hx : a.eval x = .string s)
    {u : TypeDesc} (hs : P.underlying src = some u) (hd : P.underlying dst = some (.slice e)) (he : P.underlying e = some (.int .u8)) (hz : s.size ≤ 9223372036854775807) {ok : Nat → Prop} (hok : ∀ k, W.heap.size ≤ k → ok k) (HB : Below base w0 W) (hbase : base ≤ W.heap.size)
    (h : ∀ v1 w1, Kd.V (Kd.int .u8) e w1 base ok v1 (bytesOf s) → Below base w0 w1 → W.grownBy w1 none → True → wpList P ops Q rest (a.put o.dst v1) w1) : wpList P ops Q (o :: rest) a W := by
  have hr := print_bytes (P := P) src dst e hs hd he s W
  refine Kd.event_run hgd (v := .slice (some ⟨W.heap.size, 0, none⟩) s.size (grownCap W s.size 0 e)) (w1 := Lib.bytesWorld W e s) (by simp [execOp, ho, hx, hr]) ?_
  have hR := bytes_reads W e s hz
  have hge := grownCap_ge W s.size 0 e
  generalize grownCap W s.size 0 e = c at hge ⊢
  rw [← bytesOf_length s] at hR hge ⊢
  refine h _ _ (Kd.V_mk hge fun W' hW' => Kd.C_of_reads (d := (0 : Int)) (h1 := fun _ => rfl) ⟨hR.1, hR.2.1, fun hp => ?_⟩) (bytes_below HB hbase e s) (grown_of_below (bytes_below (Below.refl _ _) (Nat.le_refl _) e s) none) trivial
  obtain ⟨ad, e1, hc⟩ := hR.2.2 hp
  refine ⟨ad, e1, fun j hj => ?_⟩
  injection e1 with e1
  subst e1
  rw [← hc j hj]
  refine World.cell?_of_block ?_
  rw [add_plain]
  exact hW' W.heap.size (hok _ (Nat.le_refl _)) (by rw [Lib.bytesWorld_size]; omega)
theorem V_bytes_step {Kc : Act → World → Prop} {w0 W : World} (base e : Nat) (hw : Region.wanted o (yielded ops a.tmps) = true) {N : Tmp} (_hd : o.dst = some N) (src dst : TypeId) (x : Operand) (ho : o.op = .convert src dst x) (s : ByteArray) (hx : a.eval x = .string s)
    {u : TypeDesc} (hs : P.underlying src = some u) (hd : P.underlying dst = some (.slice e)) (he : P.underlying e = some (.int .u8)) (hz : s.size ≤ 9223372036854775807) {ok : Nat → Prop} (hok : ∀ k, W.heap.size ≤ k → ok k) (HB : Below base w0 W) (hbase : base ≤ W.heap.size)
    (h : ∀ v1 w1, Kd.V (Kd.int .u8) e w1 base ok v1 (bytesOf s) → Below base w0 w1 → W.grownBy w1 none → True → Kc (a.put o.dst v1) w1) : if Region.wanted o (yielded ops a.tmps) = true then Oper.wp P o a W Kc Q else Kc (a.put o.dst undef) W := by
  have hr := print_bytes (P := P) src dst e hs hd he s W
  refine event_step hw (v := .slice (some ⟨W.heap.size, 0, none⟩) s.size (grownCap W s.size 0 e)) (w1 := Lib.bytesWorld W e s) (by simp [execOp, ho, hx, hr]) ?_
  have hR := bytes_reads W e s hz
  have hge := grownCap_ge W s.size 0 e
  generalize grownCap W s.size 0 e = c at hge ⊢
  rw [← bytesOf_length s] at hR hge ⊢
  refine h _ _ (Kd.V_mk hge fun W' hW' => Kd.C_of_reads (d := (0 : Int)) (h1 := fun _ => rfl) ⟨hR.1, hR.2.1, fun hp => ?_⟩) (bytes_below HB hbase e s) (grown_of_below (bytes_below (Below.refl _ _) (Nat.le_refl _) e s) none) trivial
  obtain ⟨ad, e1, hc⟩ := hR.2.2 hp
  refine ⟨ad, e1, fun j hj => ?_⟩
  injection e1 with e1
  subst e1
  rw [← hc j hj]
  refine World.cell?_of_block ?_
  rw [add_plain]
  exact hW' W.heap.size (hok _ (Nat.le_refl _)) (by rw [Lib.bytesWorld_size]; omega)
theorem V_string {w : World} {src dst e e' : TypeId} {base : Nat} {ok : Nat → Prop} {v : Value} {xs : List Int} (hs : P.underlying src = some (.slice e)) (he : P.underlying e = some (.int .u8)) (hd : P.underlying dst = some .string)
    (h : Kd.V (Kd.int .u8) e' w base ok v xs) : (convert src dst v).run P w = .ok (.string (strOfNums xs)) w := by
  obtain ⟨A, c, rfl⟩ := Kd.V_slice h
  exact Kd.C_string hs he hd (Kd.V_reads' h).2.2
end
end Go.Proofs.Ytnidooobefoahaa.Hand
