/- What the printed functions of the sum package come to: seal and check; in plain Lean (turned from XSumPure and XSumRef of chapter 02). -/
import Derived.Test.YtgbcfkcnoncgdaaSp6
import Derived.Test.YtgbcfkcnoncgdaaSp11
namespace Go.Proofs.Ytgbcfkcnoncgdaa.Pure
open Go.Proofs.Ytgbcfkcnoncgdaa.Hand
open Go.RowKit Go.Proofs.Ytgbcfkcnoncgdaa.Sp Go.Proofs.YtgbcfkcnoncgdaaW.PrintWords Go.Proofs.YtgbcfkcnoncgdaaW.PrintLast

def four (c : Int) : List Int := [c / 16777216 % 256, c / 65536 % 256, c / 256 % 256, c % 256]
def sealL (l : List Int) : List Int := l ++ four (Crc.crc l)
theorem four_length (c : Int) : (four c).length = 4 := rfl
theorem sealL_length (l : List Int) : (sealL l).length = l.length + 4 := by simp [sealL, four_length]
theorem four_bytes (c : Int) : (four c).all isB = true := by
  simp only [four, List.all_cons, List.all_nil, isB, Bool.and_true, Bool.and_eq_true, decide_eq_true_eq]
  omega
theorem sealL_bytes {l : List Int} (h : l.all isB = true) : (sealL l).all isB = true := by
  unfold sealL
  rw [List.all_append, h, four_bytes]; rfl

theorem wrap_in {x : Int} (h0 : -9223372036854775808 ≤ x) (h1 : x ≤ 9223372036854775807) : wrap64 x = x := by unfold wrap64; omega

theorem seal_f {l : List Int} (hB : l.all isB = true) (hl : l.length ≤ 100000000) : sum_Seal.f l = some (sealL l) := by
  have e : sum_Of.f l = some (Crc.crc l) := by unfold sum_Of.f; rw [if_pos hB]
  have hw : wrap64 ((l.length : Int) + 4) = (l.length : Int) + 4 := wrap_in (by omega) (by omega)
  unfold sum_Seal.f
  rw [e]
  generalize hc : Crc.crc l = c
  simp only [Option.bind_some, List.nil_append, hw, List.length_nil, List.length_cons]
  have h1 : (0 : Int) ≤ (l.length : Int) + 4 := by omega
  have h2 : ((l.length : Int) + 4).toNat ≤ 281474976710656 := by omega
  have h3 : 0 + l.length < 140737488355328 := by omega
  have h4 : l.length + (0 + 1 + 1 + 1 + 1) < 140737488355328 := by omega
  rw [if_pos h1, if_pos h2, if_pos h3, if_pos h4]
  unfold sealL four
  rw [hc]

theorem all_take {l : List Int} (h : l.all isB = true) (n : Nat) : (l.take n).all isB = true := by
  rw [List.all_eq_true] at h ⊢
  exact fun x hx => h x (List.mem_of_mem_take hx)
theorem bytesOf_all (s : ByteArray) : (bytesOf s).all isB = true := by
  rw [List.all_eq_true]
  intro x hx
  unfold bytesOf at hx
  obtain ⟨b, _, rfl⟩ := List.mem_map.1 hx
  rw [isB_iff]
  have := b.toNat_lt
  omega
theorem str_bytes (s : ByteArray) : strOfNums (bytesOf s) = s := by
  unfold bytesOf strOfNums
  rw [List.map_map]
  have : ((fun n : Int => UInt8.ofNat n.toNat) ∘ fun b : UInt8 => (b.toNat : Int)) = id := by
    funext b
    simp
  rw [this, List.map_id]
theorem ofInt_i64 (a : Nat) (ha : a < 9223372036854775808) : (BitVec.ofInt 64 (a : Int)).toNat = a := by
  rw [BitVec.ofInt_natCast, BitVec.toNat_ofNat]; exact Nat.mod_eq_of_lt (by omega)
theorem i64_xor_nat (a b : Nat) (ha : a < 9223372036854775808) (hb : b < 9223372036854775808) : bits .xor .i64 (a : Int) (b : Int) = ((a ^^^ b : Nat) : Int) := by
  have hx : a ^^^ b < 2 ^ 63 := Nat.xor_lt_two_pow (by omega) (by omega)
  show IntKind.i64.wrap ((BitVec.ofInt 64 (a : Int) ^^^ BitVec.ofInt 64 (b : Int)).toNat : Int) = _
  rw [BitVec.toNat_xor, ofInt_i64 a ha, ofInt_i64 b hb, IntKind.wrap_i64]
  omega

theorem step_low (n : Crc.W) (h : ¬ (n.toNat : Int) * 2 > 4294967295) : (Crc.step n).toNat = n.toNat * 2 := by
  rw [Crc.step_small n (by omega), BitVec.toNat_shiftLeft, Nat.shiftLeft_eq]
  have := n.isLt
  omega
theorem step_high (n : Crc.W) (h : (n.toNat : Int) * 2 > 4294967295) : bits .xor .i64 ((n.toNat : Int) * 2 - 4294967296) 79764919 = ((Crc.step n).toNat : Int) := by
  have hn := n.isLt
  have hm : n.msb = true := by rw [BitVec.msb_eq_decide]; simp; omega
  have e : ((n.toNat : Int) * 2 - 4294967296) = ((n.toNat * 2 - 4294967296 : Nat) : Int) := by omega
  have e2 : (79764919 : Int) = ((79764919 : Nat) : Int) := by simp
  have e3 : (Crc.step n).toNat = (n.toNat * 2 - 4294967296) ^^^ 79764919 := by
    unfold Crc.step
    rw [hm, if_pos rfl, BitVec.toNat_xor, BitVec.toNat_shiftLeft, Nat.shiftLeft_eq]
    have e4 : Crc.G.toNat = 79764919 := by decide
    rw [e4, show n.toNat * 2 ^ 1 % 2 ^ 32 = n.toNat * 2 - 4294967296 by omega]
  rw [e, e2, i64_xor_nat _ _ (by omega) (by omega), e3]

theorem refOf_bits (s : ByteArray) (i : Int) (d : Nat) : ∀ (k : Nat) (n : Crc.W) (j : Nat), j ≤ 8 → 8 - j = d → d < k →
    sapwoodref02_Of.l1 k s (n.toNat : Int) i (j : Int) = sapwoodref02_Of.l0 (k - d - 1) s ((Crc.steps d n).toNat : Int) (wrap64 (i + 1)) := by
  induction d with
  | zero =>
    intro k n j hj hd hk
    obtain ⟨k, rfl⟩ : ∃ m, k = m + 1 := ⟨k - 1, by omega⟩
    simp only [sapwoodref02_Of.l1]
    rw [if_neg (by omega)]
    simp [Crc.steps]
  | succ d ih =>
    intro k n j hj hd hk
    obtain ⟨k, rfl⟩ : ∃ m, k = m + 1 := ⟨k - 1, by omega⟩
    have hn := n.isLt
    simp only [sapwoodref02_Of.l1]
    rw [if_pos (by omega), wrap_in (x := (n.toNat : Int) * 2) (by omega) (by omega), wrap_in (x := (j : Int) + 1) (by omega) (by omega), show (j : Int) + 1 = ((j + 1 : Nat) : Int) by omega]
    have hk2 : k + 1 - (d + 1) - 1 = k - d - 1 := by omega
    by_cases h : (n.toNat : Int) * 2 > 4294967295
    · rw [if_pos h, wrap_in (by omega) (by omega), step_high n h, ih k (Crc.step n) (j + 1) (by omega) (by omega) (by omega), hk2]
      rfl
    · rw [if_neg h, show (n.toNat : Int) * 2 = ((Crc.step n).toNat : Int) by rw [step_low n h]; omega, ih k (Crc.step n) (j + 1) (by omega) (by omega) (by omega), hk2]
      rfl

theorem xor_byte (n : Crc.W) (c : Int) (h0 : 0 ≤ c) (h1 : c ≤ 255) : bits .xor .i64 (n.toNat : Int) (c * 16777216) = ((n ^^^ (BitVec.ofInt 32 c <<< 24)).toNat : Int) := by
  have hn := n.isLt
  obtain ⟨m, rfl⟩ := Int.eq_ofNat_of_zero_le h0
  rw [show (m : Int) * 16777216 = ((m * 16777216 : Nat) : Int) by omega, i64_xor_nat _ _ (by omega) (by omega), BitVec.toNat_xor, BitVec.toNat_shiftLeft, Nat.shiftLeft_eq, ofInt_u32 m (by omega)]
  congr 2
  omega

theorem refOf_loop (s : ByteArray) (hs : s.size ≤ 100000000) (d : Nat) : ∀ (k : Nat) (i : Nat), i ≤ s.size → s.size - i = d → 10 * d < k →
    sapwoodref02_Of.l0 k s ((Crc.reg Crc.ones ((bytesOf s).take i)).toNat : Int) (i : Int) = some (Crc.crc (bytesOf s)) := by
  have hlen := bytesOf_length s
  induction d with
  | zero =>
    intro k i hi hd hk
    obtain ⟨k, rfl⟩ : ∃ m, k = m + 1 := ⟨k - 1, by omega⟩
    simp only [sapwoodref02_Of.l0]
    rw [if_neg (by omega), List.take_of_length_le (by omega)]
    generalize hn : Crc.reg Crc.ones (bytesOf s) = n
    have := n.isLt
    rw [wrap_in (by omega) (by omega)]
    unfold Crc.crc
    rw [hn, BitVec.toNat_not]
    congr 1
    omega
  | succ d ih =>
    intro k i hi hd hk
    obtain ⟨k, rfl⟩ : ∃ m, k = m + 1 := ⟨k - 1, by omega⟩
    simp only [sapwoodref02_Of.l0]
    have hb := bt_range s (i : Int)
    rw [if_pos (by omega), if_pos (by omega), wrap_in (x := bt s (i : Int)) (by omega) (by omega), wrap_in (by omega) (by omega), xor_byte _ _ hb.1 hb.2]
    rw [show (0 : Int) = ((0 : Nat) : Int) from rfl, refOf_bits s (i : Int) 8 k _ 0 (by omega) (by omega) (by omega), wrap_in (by omega) (by omega), show (i : Int) + 1 = ((i + 1 : Nat) : Int) by omega]
    have hr := reg_snoc Crc.ones (bytesOf s) i (by omega)
    rw [rd_bytesOf] at hr
    have := ih (k - 8 - 1) (i + 1) (by omega) (by omega) (by omega)
    rw [hr] at this
    exact this

theorem refOf_f (s : ByteArray) (hs : s.size ≤ 100000000) (k : Nat) (hk : 10 * s.size < k) : sapwoodref02_Of.f k s = some (Crc.crc (bytesOf s)) := by
  unfold sapwoodref02_Of.f
  have := refOf_loop s hs s.size k 0 (by omega) (by omega) hk
  simpa [Crc.reg, Crc.ones] using this

theorem crc_range (l : List Int) : 0 ≤ Crc.crc l ∧ Crc.crc l ≤ 4294967295 := by
  unfold Crc.crc
  have := (~~~ Crc.reg Crc.ones l).isLt
  omega

theorem data_inj {a b : ByteArray} (h : a.data.toList = b.data.toList) : a = b := by
  cases a; cases b
  simp only at h
  congr 1
  exact Array.toList_inj.1 h
theorem bytesOf_inj {a b : ByteArray} (h : bytesOf a = bytesOf b) : a = b := by
  rw [← str_bytes a, ← str_bytes b, h]
theorem bytes_str {l : List Int} (h : l.all isB = true) : bytesOf (strOfNums l) = l := by
  unfold bytesOf strOfNums
  simp only [List.map_map]
  rw [List.all_eq_true] at h
  conv => rhs; rw [← List.map_id l]
  refine List.map_congr_left fun x hx => ?_
  have := (isB_iff x).1 (h x hx)
  simp only [Function.comp, id]
  rw [UInt8.toNat_ofNat']
  omega
theorem str_append (a b : List Int) : strOfNums (a ++ b) = strOfNums a ++ strOfNums b := by
  apply data_inj
  unfold strOfNums
  rw [ByteArray.toList_data_append]
  simp
theorem toList_inj {a b : ByteArray} : a.toList = b.toList ↔ a = b := by
  rw [ByteArray.toList_eq, ByteArray.toList_eq]
  exact ⟨data_inj, fun h => by rw [h]⟩

theorem four_str_size (c : Int) : (strOfNums (four c)).size = 4 := rfl
theorem refSeal_f (s : ByteArray) (hs : s.size ≤ 100000000) (k : Nat) (hk : 10 * s.size < k) : sapwoodref02_Seal.f k s = some (strOfNums (sealL (bytesOf s))) := by
  have e := refOf_f s hs k hk
  have hr := crc_range (bytesOf s)
  unfold sapwoodref02_Seal.f
  rw [e]
  unfold sealL
  generalize Crc.crc (bytesOf s) = c at hr
  simp only [Option.bind_some]
  have h1 : Int.tdiv c 16777216 = c / 16777216 := Int.tdiv_eq_ediv_of_nonneg hr.1
  have h2 : Int.tdiv c 65536 = c / 65536 := Int.tdiv_eq_ediv_of_nonneg hr.1
  have h3 : Int.tdiv c 256 = c / 256 := Int.tdiv_eq_ediv_of_nonneg hr.1
  rw [h1, h2, h3, wrap_in (x := c / 16777216) (by omega) (by omega), wrap_in (x := c / 65536) (by omega) (by omega), wrap_in (x := c / 256) (by omega) (by omega)]
  rw [Int.tmod_eq_emod_of_nonneg (by omega), Int.tmod_eq_emod_of_nonneg (by omega), Int.tmod_eq_emod_of_nonneg (by omega)]
  have e4 : ([c / 16777216 % 256, c / 65536 % 256 % 256, c / 256 % 256 % 256, c % 256 % 256] : List Int) = four c := by
    unfold four
    simp only [Int.emod_emod]
  rw [e4, four_str_size, if_pos (by omega), str_append, str_bytes]

theorem bytesOf_extract (s : ByteArray) (m : Nat) : bytesOf (s.extract 0 m) = (bytesOf s).take m := by
  unfold bytesOf
  rw [← List.map_take]
  congr 1
  rw [ByteArray.data_extract, Array.toList_extract]
  simp
end Go.Proofs.Ytgbcfkcnoncgdaa.Pure
