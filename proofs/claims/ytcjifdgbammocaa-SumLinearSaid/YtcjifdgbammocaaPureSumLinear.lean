/- The check of bytes that are xored is xored of checks: for all strings that the law looks at. -/
import Derived.Test.YtcjifdgbammocaaSl1
namespace Go.Proofs.Ytcjifdgbammocaa.PureL
open Go.Proofs.Ytcjifdgbammocaa.Hand
open Go.RowKit Go.Proofs.Ytcjifdgbammocaa.Sl Go.Proofs.YtcjifdgbammocaaW.PrintWords Go.Proofs.YtcjifdgbammocaaW.PrintLast Go.Proofs.YtcjifdgbammocaaW.PrintMore

theorem wrap_in {x : Int} (h0 : -9223372036854775808 ≤ x) (h1 : x ≤ 9223372036854775807) : wrap64 x = x := by unfold wrap64; omega
theorem bytes_all (s : ByteArray) : (bytesOf s).all isB = true := by
  rw [List.all_eq_true]
  intro x hx
  unfold bytesOf at hx
  obtain ⟨b, _, rfl⟩ := List.mem_map.1 hx
  rw [isB_iff]
  have := b.toNat_lt
  omega
theorem all_take {l : List Int} (h : l.all isB = true) (n : Nat) : (l.take n).all isB = true := by
  rw [List.all_eq_true] at h ⊢
  exact fun x hx => h x (List.mem_of_mem_take hx)
theorem bytes_extract (s : ByteArray) (m : Nat) : bytesOf (s.extract 0 m) = (bytesOf s).take m := by
  unfold bytesOf
  rw [← List.map_take]
  congr 1
  rw [ByteArray.data_extract, Array.toList_extract]
  simp
theorem of_f {l : List Int} (h : l.all isB = true) : sum_Of.f l = some (Crc.crc l) := by unfold sum_Of.f; rw [if_pos h]

abbrev xb (a b : Int) : Int := ((a.toNat ^^^ b.toNat : Nat) : Int)
theorem xb_ok {a b : Int} (ha : isB a = true) (hb : isB b = true) : bits .xor .u8 a b = xb a b ∧ isB (xb a b) = true ∧ BitVec.ofInt 32 (xb a b) = BitVec.ofInt 32 a ^^^ BitVec.ofInt 32 b := by
  rw [isB_iff] at ha hb
  obtain ⟨m, rfl⟩ := Int.eq_ofNat_of_zero_le ha.1
  obtain ⟨n, rfl⟩ := Int.eq_ofNat_of_zero_le hb.1
  have hm : m < 256 := by omega
  have hn : n < 256 := by omega
  have hlt : m ^^^ n < 2 ^ 8 := Nat.xor_lt_two_pow (by omega) (by omega)
  refine ⟨u8_xor_nat m n hm hn, ?_, ?_⟩
  · rw [isB_iff]
    simp only [xb, Int.toNat_natCast]
    omega
  · simp only [xb, Int.toNat_natCast]
    apply BitVec.eq_of_toNat_eq
    rw [BitVec.ofInt_natCast, BitVec.ofInt_natCast, BitVec.ofInt_natCast, BitVec.toNat_xor, BitVec.toNat_ofNat, BitVec.toNat_ofNat, BitVec.toNat_ofNat, Nat.mod_eq_of_lt (a := m) (by omega), Nat.mod_eq_of_lt (a := n) (by omega), Nat.mod_eq_of_lt (by omega)]

theorem zip_bytes (a : List Int) : ∀ b : List Int, a.all isB = true → b.all isB = true → (List.zipWith xb a b).all isB = true := by
  induction a with
  | nil => intro b _ _; rfl
  | cons x a ih =>
    intro b ha hb
    cases b with
    | nil => rfl
    | cons y b =>
      simp only [List.all_cons, Bool.and_eq_true] at ha hb
      simp only [List.zipWith_cons_cons, List.all_cons, Bool.and_eq_true]
      exact ⟨(xb_ok ha.1 hb.1).2.1, ih b ha.2 hb.2⟩
theorem zip_words (a : List Int) : ∀ b : List Int, a.all isB = true → b.all isB = true → (List.zipWith xb a b).map (BitVec.ofInt 32) = List.zipWith (· ^^^ ·) (a.map (BitVec.ofInt 32)) (b.map (BitVec.ofInt 32)) := by
  induction a with
  | nil => intro b _ _; rfl
  | cons x a ih =>
    intro b ha hb
    cases b with
    | nil => rfl
    | cons y b =>
      simp only [List.all_cons, Bool.and_eq_true] at ha hb
      simp only [List.zipWith_cons_cons, List.map_cons]
      rw [ih b ha.2 hb.2, (xb_ok ha.1 hb.1).2.2]
theorem xor_zeros (a : List Crc.W) : List.zipWith (· ^^^ ·) a (List.replicate a.length 0#32) = a := by
  induction a with
  | nil => rfl
  | cons x a ih =>
    simp only [List.length_cons, List.replicate_succ, List.zipWith_cons_cons, BitVec.xor_zero]
    rw [ih]

theorem ones3 : Crc.ones = (Crc.ones ^^^ Crc.ones) ^^^ Crc.ones := by rw [BitVec.xor_self, BitVec.zero_xor]
theorem not_ones (r : Crc.W) : ~~~ r = r ^^^ Crc.ones := by
  apply BitVec.eq_of_getLsbD_eq
  intro i hi
  have : ∀ i : Fin 32, Crc.ones.getLsbD i.val = true := by decide
  rw [BitVec.getLsbD_xor, BitVec.getLsbD_not, this ⟨i, hi⟩]
  simp [hi]
theorem reg_linear (a b : List Int) (hl : a.length = b.length) (ha : a.all isB = true) (hb : b.all isB = true) :
    Crc.reg Crc.ones (List.zipWith xb a b) = Crc.reg Crc.ones a ^^^ Crc.reg Crc.ones b ^^^ Crc.reg Crc.ones (List.replicate a.length 0) := by
  have hz : (List.replicate a.length (0 : Int)).map (BitVec.ofInt 32) = List.replicate (a.map (BitVec.ofInt 32)).length 0#32 := by
    rw [List.map_replicate, List.length_map]
    rfl
  rw [Crc.reg_eq, Crc.reg_eq, Crc.reg_eq, Crc.reg_eq, zip_words a b ha hb, hz]
  have h1 := Crc.regW_xor (a.map (BitVec.ofInt 32)) (b.map (BitVec.ofInt 32)) Crc.ones Crc.ones (by simpa using hl)
  have hlen : (List.zipWith (· ^^^ ·) (a.map (BitVec.ofInt 32)) (b.map (BitVec.ofInt 32))).length = (a.map (BitVec.ofInt 32)).length := by
    rw [List.length_zipWith, List.length_map, List.length_map, ← hl, Nat.min_self]
  have h2 := Crc.regW_xor (List.zipWith (· ^^^ ·) (a.map (BitVec.ofInt 32)) (b.map (BitVec.ofInt 32))) (List.replicate (List.zipWith (· ^^^ ·) (a.map (BitVec.ofInt 32)) (b.map (BitVec.ofInt 32))).length 0#32) (Crc.ones ^^^ Crc.ones) Crc.ones (by rw [List.length_replicate])
  rw [xor_zeros, ← ones3, hlen, h1] at h2
  exact h2
theorem crc_linear (a b : List Int) (hl : a.length = b.length) (ha : a.all isB = true) (hb : b.all isB = true) :
    Crc.crc (List.zipWith xb a b) = bits .xor .u32 (bits .xor .u32 (Crc.crc a) (Crc.crc b)) (Crc.crc (List.replicate a.length 0)) := by
  have h := reg_linear a b hl ha hb
  unfold Crc.crc
  rw [h]
  generalize Crc.reg Crc.ones a = x
  generalize Crc.reg Crc.ones b = y
  generalize Crc.reg Crc.ones (List.replicate a.length 0) = z
  have e : ~~~ (x ^^^ y ^^^ z) = (~~~ x ^^^ ~~~ y) ^^^ ~~~ z := by
    rw [not_ones, not_ones, not_ones, not_ones, Crc.xor_mix x, BitVec.xor_self, BitVec.xor_zero, BitVec.xor_assoc (x ^^^ y)]
  have hx := (~~~ x).isLt
  have hy := (~~~ y).isLt
  have hz := (~~~ z).isLt
  rw [e, u32_xor_nat _ _ hx hy, ← BitVec.toNat_xor]
  have hxy := (~~~ x ^^^ ~~~ y).isLt
  rw [u32_xor_nat _ _ hxy hz, ← BitVec.toNat_xor]

theorem set_next (T : List Int) (i m : Nat) (hi : i < T.length) (hT : T.length = m) : (T.take i ++ List.replicate (m - i) 0).set i (T[i]) = T.take (i + 1) ++ List.replicate (m - (i + 1)) 0 := by
  have h1 : (T.take i).length = i := by rw [List.length_take]; omega
  rw [show m - i = (m - (i + 1)) + 1 by omega, List.replicate_succ, List.set_append_right _ _ (by omega), h1, Nat.sub_self, List.set_cons_zero, List.take_succ_eq_append_getElem hi, List.append_assoc]
  rfl

/-- What stands behind the loop. -/
def tail (s t : ByteArray) (m : Nat) (x : List Int) : Option Bool :=
  (sum_Of.f x).bind fun t113 => (sum_Of.f ((bytesOf s).take m)).bind fun t117 => (sum_Of.f ((bytesOf t).take m)).bind fun t121 => (sum_Of.f (List.replicate m 0)).bind fun t125 => some (t113 == (Go.bits .xor .u32 (Go.bits .xor .u32 t117 t121) t125))

theorem l0_end (s t : ByteArray) (m : Nat) (x : List Int) (k : Nat) (h1 : m ≤ s.size) (h2 : m ≤ t.size) (hs : s.size ≤ 5000) (_ht : t.size ≤ 5000) (i : Int) (hi : ¬ i < (m : Int)) :
    sumLinear0.l0 (k + 1) s t (m : Int) x (m : Int) i = tail s t m x := by
  have e1 : (s.extract 0 m).size ≤ 9223372036854775807 := by rw [ByteArray.size_extract]; omega
  have e2 : (t.extract 0 m).size ≤ 9223372036854775807 := by rw [ByteArray.size_extract]; omega
  have p1 : (0 : Int) ≤ (m : Int) := by omega
  have p2 : (m : Int) ≤ (s.size : Int) := by omega
  have p3 : (m : Int) ≤ (t.size : Int) := by omega
  have p4 : m ≤ 281474976710656 := by omega
  simp only [sumLinear0.l0]
  rw [if_neg hi, Int.toNat_natCast, bytes_extract, bytes_extract]
  simp only [p1, p2, e1, p3, e2, p4, if_true]
  rfl

theorem next_in (i : Nat) (h : i ≤ 5000) : wrap64 ((i : Int) + 1) = ((i + 1 : Nat) : Int) := by
  rw [wrap_in (by omega) (by omega)]
  omega
theorem l0_loop (s t : ByteArray) (m : Nat) (h1 : m ≤ s.size) (h2 : m ≤ t.size) (hs : s.size ≤ 5000) (ht : t.size ≤ 5000) (d : Nat) : ∀ (k i : Nat), i ≤ m → m - i = d → d < k →
    sumLinear0.l0 k s t (m : Int) ((List.zipWith xb ((bytesOf s).take m) ((bytesOf t).take m)).take i ++ List.replicate (m - i) 0) (m : Int) (i : Int) = tail s t m (List.zipWith xb ((bytesOf s).take m) ((bytesOf t).take m)) := by
  have ls := bytesOf_length s
  have lt := bytesOf_length t
  have hT : (List.zipWith xb ((bytesOf s).take m) ((bytesOf t).take m)).length = m := by rw [List.length_zipWith, List.length_take, List.length_take]; omega
  induction d with
  | zero =>
    intro k i hi hd hk
    obtain ⟨k, rfl⟩ : ∃ q, k = q + 1 := ⟨k - 1, by omega⟩
    have him : i = m := by omega
    subst him
    rw [l0_end s t i _ k h1 h2 hs ht _ (by omega), Nat.sub_self, List.take_of_length_le (by omega)]
    simp
  | succ d ih =>
    intro k i hi hd hk
    obtain ⟨k, rfl⟩ : ∃ q, k = q + 1 := ⟨k - 1, by omega⟩
    have hl : ((List.zipWith xb ((bytesOf s).take m) ((bytesOf t).take m)).take i ++ List.replicate (m - i) 0).length = m := by
      rw [List.length_append, List.length_take, List.length_replicate, hT]; omega
    have q1 : (i : Int) < (m : Int) := by omega
    have q2 : (0 : Int) ≤ (i : Int) := by omega
    have q3 : (i : Int) < (s.size : Int) := by omega
    have q4 : (i : Int) < (t.size : Int) := by omega
    have hnext := ih k (i + 1) (by omega) (by omega) (by omega)
    have his : i < (bytesOf s).length := by omega
    have hit : i < (bytesOf t).length := by omega
    have hiT : i < (List.zipWith xb ((bytesOf s).take m) ((bytesOf t).take m)).length := by omega
    have ew := next_in i (by omega)
    have bs : bt s (i : Int) = (bytesOf s)[i] := by
      rw [← rd_bytesOf]; unfold rd
      rw [Int.toNat_natCast, List.getD_eq_getElem?_getD, List.getElem?_eq_getElem his]; rfl
    have bt' : bt t (i : Int) = (bytesOf t)[i] := by
      rw [← rd_bytesOf]; unfold rd
      rw [Int.toNat_natCast, List.getD_eq_getElem?_getD, List.getElem?_eq_getElem hit]; rfl
    have hx : bits .xor .u8 (bt s (i : Int)) (bt t (i : Int)) = (List.zipWith xb ((bytesOf s).take m) ((bytesOf t).take m))[i] := by
      rw [bs, bt', (xb_ok ((List.all_eq_true.1 (bytes_all s)) _ (List.getElem_mem his)) ((List.all_eq_true.1 (bytes_all t)) _ (List.getElem_mem hit))).1, List.getElem_zipWith, List.getElem_take, List.getElem_take]
    simp only [sumLinear0.l0]
    rw [if_pos q1, if_pos q2, if_pos q3, if_pos q4, hl, if_pos q1, Int.toNat_natCast, hx, set_next _ i m hiT hT, ew]
    exact hnext

theorem tail_true (s t : ByteArray) (m : Nat) (h1 : m ≤ s.size) (h2 : m ≤ t.size) : tail s t m (List.zipWith xb ((bytesOf s).take m) ((bytesOf t).take m)) = some true := by
  have ls := bytesOf_length s
  have lt := bytesOf_length t
  have ha := all_take (bytes_all s) m
  have hb := all_take (bytes_all t) m
  have hla : ((bytesOf s).take m).length = m := by rw [List.length_take]; omega
  have hlb : ((bytesOf t).take m).length = m := by rw [List.length_take]; omega
  have hz : (List.replicate m (0 : Int)).all isB = true := by
    rw [List.all_eq_true]
    intro x hx
    rw [(List.mem_replicate.1 hx).2]; rfl
  have hlin := crc_linear _ _ (hla.trans hlb.symm) ha hb
  rw [hla] at hlin
  unfold tail
  rw [of_f (zip_bytes _ _ ha hb), of_f ha, of_f hb, of_f hz, hlin]
  rw [Option.bind_some, Option.bind_some, Option.bind_some, Option.bind_some, beq_self_eq_true]

theorem linear_f (s t : ByteArray) (k : Nat) : sumLinear0.f k s t = sumLinear0.j0 k s t (decide ((s.size : Int) > 5000) || decide ((t.size : Int) > 5000)) := by
  unfold sumLinear0.f sapwoodlaw02_awake.f
  rw [Option.bind_some, if_pos rfl]
  by_cases h : (s.size : Int) > 5000
  · rw [if_pos h, decide_eq_true h]; rfl
  · rw [if_neg h, decide_eq_false h]; rfl
theorem linear_long (s t : ByteArray) (k : Nat) : sumLinear0.j0 (k + 1) s t true = some true := by
  simp only [sumLinear0.j0, if_true]
  rfl
theorem linear_short (s t : ByteArray) (k : Nat) (hk : 6000 < k) (hs : s.size ≤ 5000) (ht : t.size ≤ 5000) : sumLinear0.j0 (k + 1) s t false = some true := by
  have em : ∃ m : Nat, mn (s.size : Int) (t.size : Int) = (m : Int) ∧ m ≤ s.size ∧ m ≤ t.size := by
    unfold mn
    by_cases h : (t.size : Int) < (s.size : Int)
    · exact ⟨t.size, by rw [if_pos h], by omega, by omega⟩
    · exact ⟨s.size, by rw [if_neg h], by omega, by omega⟩
  obtain ⟨m, em, h1, h2⟩ := em
  have p1 : (0 : Int) ≤ (m : Int) := by omega
  have p2 : m ≤ 281474976710656 := by omega
  have hl := l0_loop s t m h1 h2 hs ht m k 0 (by omega) (by omega) (by omega)
  rw [List.take_zero, List.nil_append, Nat.sub_zero] at hl
  simp only [sumLinear0.j0]
  rw [if_neg (by simp), em, if_pos p1, Int.toNat_natCast, if_pos p2, Option.bind_some, List.length_replicate]
  exact hl.trans (tail_true s t m h1 h2)

theorem SumLinear : sumLinear0.Pure := by
  intro s t _ _
  obtain ⟨k, hk⟩ : ∃ k : Nat, k = 7000 := ⟨_, rfl⟩
  refine ⟨k + 1, ?_⟩
  rw [linear_f]
  by_cases h5 : (s.size : Int) > 5000
  · rw [decide_eq_true h5]
    exact linear_long s t k
  · by_cases h6 : (t.size : Int) > 5000
    · rw [decide_eq_true h6, Bool.or_true]
      exact linear_long s t k
    · rw [decide_eq_false h5, decide_eq_false h6]
      exact linear_short s t k (by omega) (by omega) (by omega)
end Go.Proofs.Ytcjifdgbammocaa.PureL
namespace Go.Proofs.Ytcjifdgbammocaa.Pure
theorem SumLinear : Go.Proofs.Ytcjifdgbammocaa.Sl.sumLinear0.Pure := PureL.SumLinear
end Go.Proofs.Ytcjifdgbammocaa.Pure
