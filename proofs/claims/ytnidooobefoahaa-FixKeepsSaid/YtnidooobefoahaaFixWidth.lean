/- The walk of FixWidth. -/
import Derived.Test.YtnidooobefoahaaAwakeFix
import Derived.Test.YtnidooobefoahaaWLast
import Derived.Test.YtnidooobefoahaaWTab
import Derived.Test.YtnidooobefoahaaWInv
import Derived.Test.YtnidooobefoahaaWInvWords
import Derived.Lib.SlicesS
namespace Go.Proofs.Ytnidooobefoahaa.Hand
open Go.RowKit Go.Proofs.Ytnidooobefoahaa.Sp Go.Proofs.Ytnidooobefoahaa.Pure Go.Proofs.YtnidooobefoahaaW.PrintWords Go.Proofs.YtnidooobefoahaaW.PrintLast Go.Proofs.YtnidooobefoahaaW.PrintMore
set_option linter.unusedVariables false
set_option linter.unusedSimpArgs false
theorem numOf_2 (n : Int) : numOf (bigE n 2) = n % 65536 := by
  simp only [bigE, numOf, List.nil_append, List.cons_append, List.foldl_cons, List.foldl_nil]
  omega
theorem numOf_4 (n : Int) : numOf (bigE n 4) = n % 4294967296 := by
  simp only [bigE, numOf, List.nil_append, List.cons_append, List.foldl_cons, List.foldl_nil]
  omega
theorem and_m (x : Int) (k : Nat) (hk : k ≤ 32) (h0 : -9223372036854775808 ≤ x) (h1 : x ≤ 9223372036854775807) : bits .and .i64 x ((2 ^ k - 1 : Nat) : Int) = x % (2 ^ k : Nat) := by
  have hp : 2 ^ k ≤ 4294967296 := by
    have := Nat.pow_le_pow_right (n := 2) (by decide) hk
    simpa using this
  have hp0 : 0 < 2 ^ k := Nat.pow_pos (by omega)
  show IntKind.i64.wrap ((BitVec.ofInt 64 x &&& BitVec.ofInt 64 ((2 ^ k - 1 : Nat) : Int)).toNat : Int) = _
  have e : (BitVec.ofInt 64 ((2 ^ k - 1 : Nat) : Int)).toNat = 2 ^ k - 1 := by
    rw [BitVec.ofInt_natCast, BitVec.toNat_ofNat]; exact Nat.mod_eq_of_lt (by omega)
  rw [BitVec.toNat_and, e, Nat.and_two_pow_sub_one_eq_mod, BitVec.toNat_ofInt, IntKind.wrap_i64]
  have hd : ((2 ^ k : Nat) : Int) ∣ 18446744073709551616 := by
    have : (2 : Nat) ^ k ∣ 2 ^ 64 := Nat.pow_dvd_pow 2 (by omega)
    have h2 := Int.natCast_dvd_natCast.2 this
    simpa using h2
  have hm : (((x % (2 ^ 64 : Nat)).toNat % 2 ^ k : Nat) : Int) = x % (2 ^ k : Nat) := by
    have hx : 0 ≤ x % ((2 ^ 64 : Nat) : Int) := Int.emod_nonneg _ (by decide)
    rw [Int.natCast_emod, Int.toNat_of_nonneg hx]
    exact Int.emod_emod_of_dvd x (by simpa using hd)
  rw [hm]
  have h2 : 0 ≤ x % ((2 ^ k : Nat) : Int) := Int.emod_nonneg _ (by omega)
  have h3 : x % ((2 ^ k : Nat) : Int) < ((2 ^ k : Nat) : Int) := Int.emod_lt_of_pos _ (by omega)
  omega
theorem str_eq_iff {a b : List Int} (ha : isBy a) (hb : isBy b) : (strOfNums a).toList = (strOfNums b).toList ↔ a = b := by
  constructor
  · intro h
    exact Pure.str_inj ha hb ((Lib.bytes_beq_iff _ _).1 (beq_iff_eq.2 h))
  · rintro rfl; rfl
theorem width_16 (x y : Int) : ((strOfNums (bigE x 2)).toList == (strOfNums (bigE y 2)).toList) = (bits .and .i64 (wrap64 (x - y)) 65535 == 0) := by
  have hw : -9223372036854775808 ≤ wrap64 (x - y) ∧ wrap64 (x - y) ≤ 9223372036854775807 := by unfold wrap64; omega
  rw [show (65535 : Int) = ((2 ^ 16 - 1 : Nat) : Int) from rfl, and_m _ 16 (by omega) hw.1 hw.2, Bool.eq_iff_iff, beq_iff_eq, beq_iff_eq, str_eq_iff (bigE_by _ _) (bigE_by _ _)]
  have hmod : wrap64 (x - y) % ((2 ^ 16 : Nat) : Int) = (x - y) % 65536 := by unfold wrap64; omega
  rw [hmod]
  constructor
  · intro h
    have := congrArg numOf h
    rw [numOf_2, numOf_2] at this
    omega
  · intro h
    simp only [bigE, List.nil_append, List.cons_append]
    rw [show x / 256 % 256 = y / 256 % 256 by omega, show x % 256 = y % 256 by omega]
theorem width_32 (x y : Int) : ((strOfNums (bigE x 4)).toList == (strOfNums (bigE y 4)).toList) = (bits .and .i64 (wrap64 (x - y)) 4294967295 == 0) := by
  have hw : -9223372036854775808 ≤ wrap64 (x - y) ∧ wrap64 (x - y) ≤ 9223372036854775807 := by unfold wrap64; omega
  rw [show (4294967295 : Int) = ((2 ^ 32 - 1 : Nat) : Int) from rfl, and_m _ 32 (by omega) hw.1 hw.2, Bool.eq_iff_iff, beq_iff_eq, beq_iff_eq, str_eq_iff (bigE_by _ _) (bigE_by _ _)]
  have hmod : wrap64 (x - y) % ((2 ^ 32 : Nat) : Int) = (x - y) % 4294967296 := by unfold wrap64; omega
  rw [hmod]
  constructor
  · intro h
    have := congrArg numOf h
    rw [numOf_4, numOf_4] at this
    omega
  · intro h
    simp only [bigE, List.nil_append, List.cons_append]
    rw [show x / 256 / 256 / 256 % 256 = y / 256 / 256 / 256 % 256 by omega, show x / 256 / 256 % 256 = y / 256 / 256 % 256 by omega, show x / 256 % 256 = y / 256 % 256 by omega, show x % 256 = y % 256 by omega]
def IsBs (w : World) (v : Value) (l : List Int) : Prop := ∃ A c, v = .slice A l.length c ∧ (Kd.int .u8).C w A l.length l
theorem IsBs.below {w w' : World} {v : Value} {l : List Int} (h : IsBs w v l) (hb : Below w.heap.size w w') : IsBs w' v l := by
  obtain ⟨A, c, e, hC⟩ := h
  exact ⟨A, c, e, Kd.C_below hC hb⟩
theorem IsBs.str {w : World} {v : Value} {l : List Int} (h : IsBs w v l) : (convert 23 9 v).run Try.prog w = .ok (.string (strOfNums l)) w := by
  obtain ⟨A, c, rfl, hC⟩ := h
  exact Kd.C_string Try.underlying23 Try.underlying5 Try.underlying9 hC
theorem run_conv_op {P : Program} {op : Oper} {a : Act} {w : World} (src dst : TypeId) (x : Operand) (ho : op.op = .convert src dst x) (v : Value) {u : Value} (hx : a.eval x = v) (hr : (convert src dst v).run P w = .ok u w) : (execOp a.eval op).run P w = .ok (.value u) w := by
  unfold execOp
  simp only [ho, hx, hr, Sem.run_bind, Sem.run_pure, Result.andThen_ok]
def width_T : Bool × List (List Nat × List Nat) := (true, [([], []), ([0], [0]), ([1], [1]), ([], []), ([3, 1], [3]), ([4], [4]), ([2, 5], [2, 5]), ([], []), ([7, 4], [7]), ([8], [8]), ([], []), ([10, 8], [10]), ([11], [11]), ([9, 12], [9, 12]), ([6, 11, 0, 1, 2, 3, 4, 5, 6], [6]), ([13, 14, 0, 1, 2, 3, 4, 5, 6, 7, 8, 9, 10, 11, 12, 13, 14], [13])])
def width_B : List Nat := [0, 1, 3, 0, 11, 27, 63, 0, 155, 411, 0, 1435, 3483, 8091, 3583, 32767]
theorem width_tab : rtab .any (opsOf Try.f3 3) = width_T := by kernel_rfl
theorem width_bits : waitsOk width_T.2 width_B = true := by kernel_rfl
set_option maxHeartbeats 2000000 in
set_option maxRecDepth 100000 in
theorem width_walk (x y : Int) (w : World) : Calls Try.prog 3 #[.int .i64 x, .int .i64 y] w fun e w' => e = .returned (.bool true) ∧ Below w.heap.size w w' := by
  have P1 : Aside0 (∀ W, Calls Try.prog 11 #[.slice none 0 0, .int .i64 x] W (PutOut W (bigE x 2))) := ⟨fun W => by have := Put16_any (w := W) (A0 := none) (c0 := 0) (l := []) x (Kd.C_nil _ _) (by simp) (by simp); rw [List.nil_append] at this; exact this⟩
  have P2 : Aside0 (∀ W, Calls Try.prog 11 #[.slice none 0 0, .int .i64 y] W (PutOut W (bigE y 2))) := ⟨fun W => by have := Put16_any (w := W) (A0 := none) (c0 := 0) (l := []) y (Kd.C_nil _ _) (by simp) (by simp); rw [List.nil_append] at this; exact this⟩
  have P3 : Aside0 (∀ W, Calls Try.prog 12 #[.slice none 0 0, .int .i64 x] W (PutOut W (bigE x 4))) := ⟨fun W => by have := Put32_any (w := W) (A0 := none) (c0 := 0) (l := []) x (Kd.C_nil _ _) (by simp) (by simp); rw [List.nil_append] at this; exact this⟩
  have P4 : Aside0 (∀ W, Calls Try.prog 12 #[.slice none 0 0, .int .i64 y] W (PutOut W (bigE y 4))) := ⟨fun W => by have := Put32_any (w := W) (A0 := none) (c0 := 0) (l := []) y (Kd.C_nil _ _) (by simp) (by simp); rw [List.nil_append] at this; exact this⟩
  have E1 := Aside0.mk (width_16 x y)
  have E2 := Aside0.mk (width_32 x y)
  generalize bigE x 2 = L1 at P1 E1
  generalize bigE y 2 = L2 at P2 E1
  generalize bigE x 4 = L3 at P3 E2
  generalize bigE y 4 = L4 at P4 E2
  go_enter Try.func3, Try.ntmps3
  go_wp2_with (go_at_call 10; refine (awake_true _).mono ?_; rintro e w1 ⟨rfl, hb⟩; have HB := Aside0.mk (below_drew hb); clear hb)
  refine start_ (n := 16) (S := fun _ => True) (ds := []) #[false, false, false, false, false, false, false, false, false, false, false, false, false, false, false, false] (by kernel_rfl) rfl rfl trivial (fun hHeld => ?_)
  clear hHeld
  refine with_tabW width_tab width_bits (fun HT_ HW_ => ?_)
  refine pure_ (i := 0) (N := (some 9)) (v := ?_) (a' := ?_) #[true, false, false, false, false, false, false, false, false, false, false, false, false, false, false, false] rfl rfl (any_of HT_.out (by kernel_rfl)) (fun _ _ _ h => h) (Or.inl ⟨by rfl, ?_⟩) ?_ ?_
  rotate_left
  · intro w'
    go_simp
    with_reducible rfl
  rotate_left
  · simp only [Act.put, List.setIfInBounds_toArray, List.set_cons_zero, List.set_cons_succ, i64_w, i32_w]
    rfl
  refine pure_ (i := 3) (N := (some 12)) (v := ?_) (a' := ?_) #[true, false, false, true, false, false, false, false, false, false, false, false, false, false, false, false] rfl rfl (any_of HT_.out (by kernel_rfl)) (fun _ _ _ h => h) (Or.inl ⟨by rfl, ?_⟩) ?_ ?_
  rotate_left
  · intro w'
    go_simp
    with_reducible rfl
  rotate_left
  · simp only [Act.put, List.setIfInBounds_toArray, List.set_cons_zero, List.set_cons_succ, i64_w, i32_w]
    rfl
  refine pure_ (i := 7) (N := (some 16)) (v := ?_) (a' := ?_) #[true, false, false, true, false, false, false, true, false, false, false, false, false, false, false, false] rfl rfl (any_of HT_.out (by kernel_rfl)) (fun _ _ _ h => h) (Or.inl ⟨by rfl, ?_⟩) ?_ ?_
  rotate_left
  · intro w'
    go_simp
    with_reducible rfl
  rotate_left
  · simp only [Act.put, List.setIfInBounds_toArray, List.set_cons_zero, List.set_cons_succ, i64_w, i32_w]
    rfl
  refine pure_ (i := 10) (N := (some 19)) (v := ?_) (a' := ?_) #[true, false, false, true, false, false, false, true, false, false, true, false, false, false, false, false] rfl rfl (any_of HT_.out (by kernel_rfl)) (fun _ _ _ h => h) (Or.inl ⟨by rfl, ?_⟩) ?_ ?_
  rotate_left
  · intro w'
    go_simp
    with_reducible rfl
  rotate_left
  · simp only [Act.put, List.setIfInBounds_toArray, List.set_cons_zero, List.set_cons_succ, i64_w, i32_w]
    rfl
  refine inv_at [1, 2, 4, 5, 6, 8, 9, 11, 12, 13, 14, 15] (fun a0_ b a w' => ∃ (v1 : Value) (v4 : Value) (v8 : Value) (v11 : Value), a = putSel a0_ b [(1, 10, v1), (2, 11, .string (strOfNums L1)), (4, 13, v4), (5, 14, .string (strOfNums L2)), (6, 15, .bool ((strOfNums L1).toList == (strOfNums L2).toList)), (8, 17, v8), (9, 18, .string (strOfNums L3)), (11, 20, v11), (12, 21, .string (strOfNums L4)), (13, 22, .bool ((strOfNums L3).toList == (strOfNums L4).toList)), (14, 5, .bool ((strOfNums L1).toList == (strOfNums L2).toList)), (15, 6, .bool ((strOfNums L3).toList == (strOfNums L4).toList))] ∧ (Below w.heap.size w w') ∧ (b 1 = true → IsBs w' v1 L1) ∧ (b 4 = true → IsBs w' v4 L2) ∧ (b 8 = true → IsBs w' v8 L3) ∧ (b 11 = true → IsBs w' v11 L4)) HT_.out HW_.out (by kernel_rfl) (by kernel_rfl) ?_ ?_ ?_
  · exact ⟨.bool false, .bool false, .bool false, .bool false, by simp only [putSel, Bool.false_eq_true, if_false], HB.out, fun h_ => absurd h_ (by decide), fun h_ => absurd h_ (by decide), fun h_ => absurd h_ (by decide), fun h_ => absurd h_ (by decide)⟩
  · skip
    refine steps_cons ?_ ?_
    · rintro b a w' ⟨v1, v4, v8, v11, ha, Q_HB, Q_H1, Q_H4, Q_H8, Q_H11⟩ hb_ hon hoff
      refine ⟨_, rfl, fun K hK => ?_⟩
      have e9 : a.tmps[9]? = some (.int .i64 x) := by rw [ha]; exact (putSel_off rfl).trans rfl
      replace ha := Aside0.mk ha
      refine goes_ Try.func11 (by kernel_rfl) rfl #[.slice none 0 0, .int .i64 x] (by rfl) rfl rfl (by first | (simp only [List.map_toArray, List.map_cons, List.map_nil, Act.eval, Array.getD_eq_getD_getElem?, Option.getD_some, e9]; done) | (simp only [List.map_toArray, List.map_cons, List.map_nil, Act.eval, Array.getD_eq_getD_getElem?, Option.getD_some, e9]; rfl)) ?_
      refine (P1.out w').mono ?_
      rintro e_ w1 ⟨A, c, rfl, hR, hC, hle, hb⟩
      refine ⟨_, rfl, ?_⟩
      refine hK.out _ _ ⟨_, v4, v8, v11, (by rw [ha.out]; exact putSel_upk 0 hb_ rfl rfl rfl), below_step Q_HB hb, fun _ => ⟨A, c, rfl, hC⟩, fun h_ => IsBs.below (Q_H4 h_) hb, fun h_ => IsBs.below (Q_H8 h_) hb, fun h_ => IsBs.below (Q_H11 h_) hb⟩
    refine steps_cons ?_ ?_
    · rintro b a w' ⟨v1, v4, v8, v11, ha, Q_HB, Q_H1, Q_H4, Q_H8, Q_H11⟩ hb_ hon hoff
      refine ⟨_, rfl, fun K hK => ?_⟩
      have e10 : a.tmps[10]? = some (v1) := by rw [ha]; exact putSel_on (e := (1, 10, v1)) 0 rfl rfl (hon 1 (by kernel_rfl)) rfl
      replace ha := Aside0.mk ha
      refine value_ (w1 := w') (v := .string (strOfNums L1)) (by rfl) rfl (run_conv_op _ _ _ rfl _ (eval_of e10) (IsBs.str (Q_H1 (hon 1 (by kernel_rfl))))) ?_
      refine hK.out _ _ ⟨v1, v4, v8, v11, (by rw [ha.out]; exact putSel_upk 1 hb_ rfl rfl rfl), Q_HB, Q_H1, Q_H4, Q_H8, Q_H11⟩
    refine steps_cons ?_ ?_
    · rintro b a w' ⟨v1, v4, v8, v11, ha, Q_HB, Q_H1, Q_H4, Q_H8, Q_H11⟩ hb_ hon hoff
      refine ⟨_, rfl, fun K hK => ?_⟩
      have e12 : a.tmps[12]? = some (.int .i64 y) := by rw [ha]; exact (putSel_off rfl).trans rfl
      replace ha := Aside0.mk ha
      refine goes_ Try.func11 (by kernel_rfl) rfl #[.slice none 0 0, .int .i64 y] (by rfl) rfl rfl (by first | (simp only [List.map_toArray, List.map_cons, List.map_nil, Act.eval, Array.getD_eq_getD_getElem?, Option.getD_some, e12]; done) | (simp only [List.map_toArray, List.map_cons, List.map_nil, Act.eval, Array.getD_eq_getD_getElem?, Option.getD_some, e12]; rfl)) ?_
      refine (P2.out w').mono ?_
      rintro e_ w1 ⟨A, c, rfl, hR, hC, hle, hb⟩
      refine ⟨_, rfl, ?_⟩
      refine hK.out _ _ ⟨v1, _, v8, v11, (by rw [ha.out]; exact putSel_upk 2 hb_ rfl rfl rfl), below_step Q_HB hb, fun h_ => IsBs.below (Q_H1 h_) hb, fun _ => ⟨A, c, rfl, hC⟩, fun h_ => IsBs.below (Q_H8 h_) hb, fun h_ => IsBs.below (Q_H11 h_) hb⟩
    refine steps_cons ?_ ?_
    · rintro b a w' ⟨v1, v4, v8, v11, ha, Q_HB, Q_H1, Q_H4, Q_H8, Q_H11⟩ hb_ hon hoff
      refine ⟨_, rfl, fun K hK => ?_⟩
      have e13 : a.tmps[13]? = some (v4) := by rw [ha]; exact putSel_on (e := (4, 13, v4)) 2 rfl rfl (hon 4 (by kernel_rfl)) rfl
      replace ha := Aside0.mk ha
      refine value_ (w1 := w') (v := .string (strOfNums L2)) (by rfl) rfl (run_conv_op _ _ _ rfl _ (eval_of e13) (IsBs.str (Q_H4 (hon 4 (by kernel_rfl))))) ?_
      refine hK.out _ _ ⟨v1, v4, v8, v11, (by rw [ha.out]; exact putSel_upk 3 hb_ rfl rfl rfl), Q_HB, Q_H1, Q_H4, Q_H8, Q_H11⟩
    refine steps_cons ?_ ?_
    · rintro b a w' ⟨v1, v4, v8, v11, ha, Q_HB, Q_H1, Q_H4, Q_H8, Q_H11⟩ hb_ hon hoff
      refine ⟨_, rfl, fun K hK => ?_⟩
      have e11 : a.tmps[11]? = some (.string (strOfNums L1)) := by rw [ha]; exact putSel_on (e := (2, 11, .string (strOfNums L1))) 1 rfl rfl (hon 2 (by kernel_rfl)) rfl
      have e14 : a.tmps[14]? = some (.string (strOfNums L2)) := by rw [ha]; exact putSel_on (e := (5, 14, .string (strOfNums L2))) 3 rfl rfl (hon 5 (by kernel_rfl)) rfl
      replace ha := Aside0.mk ha
      refine value_ (w1 := w') (v := .bool ((strOfNums L1).toList == (strOfNums L2).toList)) (by rfl) rfl ?_ ?_
      · go_simp
        try simp only [i64_w]
        try rfl
      refine hK.out _ _ ⟨v1, v4, v8, v11, (by rw [ha.out]; exact putSel_upk 4 hb_ rfl rfl rfl), Q_HB, Q_H1, Q_H4, Q_H8, Q_H11⟩
    refine steps_cons ?_ ?_
    · rintro b a w' ⟨v1, v4, v8, v11, ha, Q_HB, Q_H1, Q_H4, Q_H8, Q_H11⟩ hb_ hon hoff
      refine ⟨_, rfl, fun K hK => ?_⟩
      have e16 : a.tmps[16]? = some (.int .i64 x) := by rw [ha]; exact (putSel_off rfl).trans rfl
      replace ha := Aside0.mk ha
      refine goes_ Try.func12 (by kernel_rfl) rfl #[.slice none 0 0, .int .i64 x] (by rfl) rfl rfl (by first | (simp only [List.map_toArray, List.map_cons, List.map_nil, Act.eval, Array.getD_eq_getD_getElem?, Option.getD_some, e16]; done) | (simp only [List.map_toArray, List.map_cons, List.map_nil, Act.eval, Array.getD_eq_getD_getElem?, Option.getD_some, e16]; rfl)) ?_
      refine (P3.out w').mono ?_
      rintro e_ w1 ⟨A, c, rfl, hR, hC, hle, hb⟩
      refine ⟨_, rfl, ?_⟩
      refine hK.out _ _ ⟨v1, v4, _, v11, (by rw [ha.out]; exact putSel_upk 5 hb_ rfl rfl rfl), below_step Q_HB hb, fun h_ => IsBs.below (Q_H1 h_) hb, fun h_ => IsBs.below (Q_H4 h_) hb, fun _ => ⟨A, c, rfl, hC⟩, fun h_ => IsBs.below (Q_H11 h_) hb⟩
    refine steps_cons ?_ ?_
    · rintro b a w' ⟨v1, v4, v8, v11, ha, Q_HB, Q_H1, Q_H4, Q_H8, Q_H11⟩ hb_ hon hoff
      refine ⟨_, rfl, fun K hK => ?_⟩
      have e17 : a.tmps[17]? = some (v8) := by rw [ha]; exact putSel_on (e := (8, 17, v8)) 5 rfl rfl (hon 8 (by kernel_rfl)) rfl
      replace ha := Aside0.mk ha
      refine value_ (w1 := w') (v := .string (strOfNums L3)) (by rfl) rfl (run_conv_op _ _ _ rfl _ (eval_of e17) (IsBs.str (Q_H8 (hon 8 (by kernel_rfl))))) ?_
      refine hK.out _ _ ⟨v1, v4, v8, v11, (by rw [ha.out]; exact putSel_upk 6 hb_ rfl rfl rfl), Q_HB, Q_H1, Q_H4, Q_H8, Q_H11⟩
    refine steps_cons ?_ ?_
    · rintro b a w' ⟨v1, v4, v8, v11, ha, Q_HB, Q_H1, Q_H4, Q_H8, Q_H11⟩ hb_ hon hoff
      refine ⟨_, rfl, fun K hK => ?_⟩
      have e19 : a.tmps[19]? = some (.int .i64 y) := by rw [ha]; exact (putSel_off rfl).trans rfl
      replace ha := Aside0.mk ha
      refine goes_ Try.func12 (by kernel_rfl) rfl #[.slice none 0 0, .int .i64 y] (by rfl) rfl rfl (by first | (simp only [List.map_toArray, List.map_cons, List.map_nil, Act.eval, Array.getD_eq_getD_getElem?, Option.getD_some, e19]; done) | (simp only [List.map_toArray, List.map_cons, List.map_nil, Act.eval, Array.getD_eq_getD_getElem?, Option.getD_some, e19]; rfl)) ?_
      refine (P4.out w').mono ?_
      rintro e_ w1 ⟨A, c, rfl, hR, hC, hle, hb⟩
      refine ⟨_, rfl, ?_⟩
      refine hK.out _ _ ⟨v1, v4, v8, _, (by rw [ha.out]; exact putSel_upk 7 hb_ rfl rfl rfl), below_step Q_HB hb, fun h_ => IsBs.below (Q_H1 h_) hb, fun h_ => IsBs.below (Q_H4 h_) hb, fun h_ => IsBs.below (Q_H8 h_) hb, fun _ => ⟨A, c, rfl, hC⟩⟩
    refine steps_cons ?_ ?_
    · rintro b a w' ⟨v1, v4, v8, v11, ha, Q_HB, Q_H1, Q_H4, Q_H8, Q_H11⟩ hb_ hon hoff
      refine ⟨_, rfl, fun K hK => ?_⟩
      have e20 : a.tmps[20]? = some (v11) := by rw [ha]; exact putSel_on (e := (11, 20, v11)) 7 rfl rfl (hon 11 (by kernel_rfl)) rfl
      replace ha := Aside0.mk ha
      refine value_ (w1 := w') (v := .string (strOfNums L4)) (by rfl) rfl (run_conv_op _ _ _ rfl _ (eval_of e20) (IsBs.str (Q_H11 (hon 11 (by kernel_rfl))))) ?_
      refine hK.out _ _ ⟨v1, v4, v8, v11, (by rw [ha.out]; exact putSel_upk 8 hb_ rfl rfl rfl), Q_HB, Q_H1, Q_H4, Q_H8, Q_H11⟩
    refine steps_cons ?_ ?_
    · rintro b a w' ⟨v1, v4, v8, v11, ha, Q_HB, Q_H1, Q_H4, Q_H8, Q_H11⟩ hb_ hon hoff
      refine ⟨_, rfl, fun K hK => ?_⟩
      have e18 : a.tmps[18]? = some (.string (strOfNums L3)) := by rw [ha]; exact putSel_on (e := (9, 18, .string (strOfNums L3))) 6 rfl rfl (hon 9 (by kernel_rfl)) rfl
      have e21 : a.tmps[21]? = some (.string (strOfNums L4)) := by rw [ha]; exact putSel_on (e := (12, 21, .string (strOfNums L4))) 8 rfl rfl (hon 12 (by kernel_rfl)) rfl
      replace ha := Aside0.mk ha
      refine value_ (w1 := w') (v := .bool ((strOfNums L3).toList == (strOfNums L4).toList)) (by rfl) rfl ?_ ?_
      · go_simp
        try simp only [i64_w]
        try rfl
      refine hK.out _ _ ⟨v1, v4, v8, v11, (by rw [ha.out]; exact putSel_upk 9 hb_ rfl rfl rfl), Q_HB, Q_H1, Q_H4, Q_H8, Q_H11⟩
    refine steps_cons ?_ ?_
    · rintro b a w' ⟨v1, v4, v8, v11, ha, Q_HB, Q_H1, Q_H4, Q_H8, Q_H11⟩ hb_ hon hoff
      refine ⟨_, rfl, fun K hK => ?_⟩
      have e15 : a.tmps[15]? = some (.bool ((strOfNums L1).toList == (strOfNums L2).toList)) := by rw [ha]; exact putSel_on (e := (6, 15, .bool ((strOfNums L1).toList == (strOfNums L2).toList))) 4 rfl rfl (hon 6 (by kernel_rfl)) rfl
      replace ha := Aside0.mk ha
      refine value_ (w1 := w') (v := .bool ((strOfNums L1).toList == (strOfNums L2).toList)) (by rfl) rfl ?_ ?_
      · go_simp
        try simp only [i64_w]
        try rfl
      refine hK.out _ _ ⟨v1, v4, v8, v11, (by rw [ha.out]; exact putSel_upk 10 hb_ rfl rfl rfl), Q_HB, Q_H1, Q_H4, Q_H8, Q_H11⟩
    refine steps_cons ?_ ?_
    · rintro b a w' ⟨v1, v4, v8, v11, ha, Q_HB, Q_H1, Q_H4, Q_H8, Q_H11⟩ hb_ hon hoff
      refine ⟨_, rfl, fun K hK => ?_⟩
      have e22 : a.tmps[22]? = some (.bool ((strOfNums L3).toList == (strOfNums L4).toList)) := by rw [ha]; exact putSel_on (e := (13, 22, .bool ((strOfNums L3).toList == (strOfNums L4).toList))) 9 rfl rfl (hon 13 (by kernel_rfl)) rfl
      replace ha := Aside0.mk ha
      refine value_ (w1 := w') (v := .bool ((strOfNums L3).toList == (strOfNums L4).toList)) (by rfl) rfl ?_ ?_
      · go_simp
        try simp only [i64_w]
        try rfl
      refine hK.out _ _ ⟨v1, v4, v8, v11, (by rw [ha.out]; exact putSel_upk 11 hb_ rfl rfl rfl), Q_HB, Q_H1, Q_H4, Q_H8, Q_H11⟩
    exact steps_nil
  rintro b a w9 hall ⟨v1, v4, v8, v11, ha, Q_HB, Q_H1, Q_H4, Q_H8, Q_H11⟩
  have hb1_ := hall 1 (by kernel_rfl)
  have hb2_ := hall 2 (by kernel_rfl)
  have hb4_ := hall 4 (by kernel_rfl)
  have hb5_ := hall 5 (by kernel_rfl)
  have hb6_ := hall 6 (by kernel_rfl)
  have hb8_ := hall 8 (by kernel_rfl)
  have hb9_ := hall 9 (by kernel_rfl)
  have hb11_ := hall 11 (by kernel_rfl)
  have hb12_ := hall 12 (by kernel_rfl)
  have hb13_ := hall 13 (by kernel_rfl)
  have hb14_ := hall 14 (by kernel_rfl)
  have hb15_ := hall 15 (by kernel_rfl)
  subst ha
  simp only [putSel, hb1_, hb2_, hb4_, hb5_, hb6_, hb8_, hb9_, hb11_, hb12_, hb13_, hb14_, hb15_, if_true, Act.put, List.setIfInBounds_toArray, List.set_cons_zero, List.set_cons_succ]
  have N_HB := Aside0.mk Q_HB
  clear Q_HB
  have N_H1 := Aside0.mk (Q_H1 hb1_)
  clear Q_H1
  have N_H4 := Aside0.mk (Q_H4 hb4_)
  clear Q_H4
  have N_H8 := Aside0.mk (Q_H8 hb8_)
  clear Q_H8
  have N_H11 := Aside0.mk (Q_H11 hb11_)
  clear Q_H11
  clear hall hb1_ hb2_ hb4_ hb5_ hb6_ hb8_ hb9_ hb11_ hb12_ hb13_ hb14_ hb15_

  go_wp2
  · go_ret
    exact ⟨by simp [E2.out], N_HB.out⟩
  · exact absurd E1.out (by assumption)
end Go.Proofs.Ytnidooobefoahaa.Hand
