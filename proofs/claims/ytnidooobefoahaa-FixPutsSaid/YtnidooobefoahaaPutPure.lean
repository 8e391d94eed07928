/- What the printed functions that put numbers and texts come to; in plain Lean. -/
import Derived.Test.YtnidooobefoahaaSp1
namespace Go.Proofs.Ytnidooobefoahaa.Pure
open Go.Proofs.Ytnidooobefoahaa.Hand
open Go.RowKit Go.Proofs.Ytnidooobefoahaa.Sp Go.Proofs.YtnidooobefoahaaW.PrintWords Go.Proofs.YtnidooobefoahaaW.PrintLast Go.Proofs.YtnidooobefoahaaW.PrintMore
set_option linter.unusedVariables false

theorem wrap_in {x : Int} (h0 : -9223372036854775808 ≤ x) (h1 : x ≤ 9223372036854775807) : wrap64 x = x := by unfold wrap64; omega
theorem str_bytes (s : ByteArray) : strOfNums (bytesOf s) = s := by
  unfold bytesOf strOfNums
  rw [List.map_map]
  have : ((fun n : Int => UInt8.ofNat n.toNat) ∘ fun b : UInt8 => (b.toNat : Int)) = id := by
    funext b
    simp
  rw [this]
  simp
theorem data_inj {a b : ByteArray} (h : a.data.toList = b.data.toList) : a = b := by
  cases a; cases b; simp at h; simp [h]
theorem str_append (a b : List Int) : strOfNums (a ++ b) = strOfNums a ++ strOfNums b := by
  apply data_inj
  unfold strOfNums
  rw [ByteArray.toList_data_append]
  simp
theorem str_size (l : List Int) : (strOfNums l).size = l.length := by
  show (strOfNums l).data.size = _
  simp [strOfNums]
theorem bytes_str {l : List Int} (h : ∀ x ∈ l, 0 ≤ x ∧ x ≤ 255) : bytesOf (strOfNums l) = l := by
  unfold bytesOf strOfNums
  simp only [List.map_map]
  conv => rhs; rw [← List.map_id l]
  refine List.map_congr_left fun x hx => ?_
  have := h x hx
  simp only [Function.comp, id]
  rw [UInt8.toNat_ofNat']
  omega
theorem str_inj {a b : List Int} (ha : ∀ x ∈ a, 0 ≤ x ∧ x ≤ 255) (hb : ∀ x ∈ b, 0 ≤ x ∧ x ≤ 255) (h : strOfNums a = strOfNums b) : a = b := by
  rw [← bytes_str ha, ← bytes_str hb, h]
theorem bytesOf_by (s : ByteArray) : ∀ x ∈ bytesOf s, 0 ≤ x ∧ x ≤ 255 := by
  intro x hx
  unfold bytesOf at hx
  obtain ⟨b, _, rfl⟩ := List.mem_map.1 hx
  have := b.toNat_lt
  omega

/-- The lowest bytes of a number, the greatest first. -/
def bigE (n : Int) : Nat → List Int
  | 0 => []
  | m + 1 => bigE (n / 256) m ++ [n % 256]
theorem bigE_length (m : Nat) : ∀ n : Int, (bigE n m).length = m := by
  induction m with
  | zero => intro n; rfl
  | succ m ih => intro n; rw [bigE, List.length_append, ih]; rfl
theorem bigE_by (m : Nat) : ∀ n : Int, ∀ x ∈ bigE n m, 0 ≤ x ∧ x ≤ 255 := by
  induction m with
  | zero => intro n x hx; simp [bigE] at hx
  | succ m ih =>
    intro n x hx
    rw [bigE, List.mem_append] at hx
    rcases hx with hx | hx
    · exact ih _ x hx
    · rw [List.mem_singleton] at hx; omega
theorem bigE_cons (j : Nat) : ∀ v : Int, bigE v (j + 1) = (v / 2 ^ (8 * j) % 256) :: bigE v j := by
  induction j with
  | zero => intro v; simp [bigE]
  | succ j ih =>
    intro v
    rw [bigE, ih (v / 256)]
    show (v / 256 / 2 ^ (8 * j) % 256) :: (bigE (v / 256) j ++ [v % 256]) = (v / 2 ^ (8 * (j + 1)) % 256) :: (bigE (v / 256) j ++ [v % 256])
    congr 2
    rw [Int.ediv_ediv_of_nonneg (show (0 : Int) ≤ 256 by omega), show 8 * (j + 1) = 8 + 8 * j by omega, Int.pow_add]
    rfl
def textE (s : ByteArray) : List Int := bigE ((s.extract 0 65535).size : Int) 2 ++ bytesOf (s.extract 0 65535)

theorem shrK (v : Int) (j : Nat) (hj : 8 * j < 64) : shr .i64 v ((8 * j : Nat) : Int) = v / 2 ^ (8 * j) := by
  unfold shr
  rw [Int.toNat_natCast, Nat.min_eq_left (by show 8 * j ≤ 64; omega)]
theorem put_loop (v : Int) : ∀ (j : Nat) (k : Nat) (x : List Int), j ≤ 7 → j < k → x.length + j < 140737488355328 →
    fix_put.l0 k v x ((j : Int) - 1) = some (x ++ (bigE v j)) := by
  intro j
  induction j with
  | zero =>
    intro k x _ hk _
    obtain ⟨k, rfl⟩ : ∃ m, k = m + 1 := ⟨k - 1, by omega⟩
    simp only [fix_put.l0]
    rw [if_neg (by omega)]
    simp [bigE]
  | succ j ih =>
    intro k x hj hk hx
    obtain ⟨k, rfl⟩ : ∃ m, k = m + 1 := ⟨k - 1, by omega⟩
    simp only [fix_put.l0]
    rw [show ((j + 1 : Nat) : Int) - 1 = (j : Int) by omega, wrap_in (x := 8 * (j : Int)) (by omega) (by omega), wrap_in (x := (j : Int) - 1) (by omega) (by omega), if_pos (by omega), if_pos (by omega), if_pos (by omega), ih k _ (by omega) (by omega) (by simp; omega)]
    rw [show 8 * (j : Int) = ((8 * j : Nat) : Int) by omega, shrK v j (by omega), List.append_assoc]
    rw [bigE_cons]; rfl
theorem put_f (l : List Int) (v : Int) (m : Nat) (hm : m ≤ 7) (hl : l.length + m < 140737488355328) (k : Nat) (hk : m < k) : fix_put.f k l v (m : Int) = some (l ++ bigE v m) := by
  unfold fix_put.f
  rw [wrap_in (by omega) (by omega), wrap_in (by omega) (by omega), if_pos (by omega), if_pos (by omega), Option.bind_some, if_pos (by simp; omega), put_loop v m k _ hm hk (by simpa using hl)]
  rfl
theorem put16_f (l : List Int) (v : Int) (hl : l.length + 2 < 140737488355328) (k : Nat) (hk : 2 < k) : fix_Put16.f k l v = some (l ++ bigE v 2) := by
  unfold fix_Put16.f
  rw [show (2 : Int) = ((2 : Nat) : Int) from rfl, put_f l v 2 (by omega) hl k hk]; rfl
theorem put32_f (l : List Int) (v : Int) (hl : l.length + 4 < 140737488355328) (k : Nat) (hk : 4 < k) : fix_Put32.f k l v = some (l ++ bigE v 4) := by
  unfold fix_Put32.f
  rw [show (4 : Int) = ((4 : Nat) : Int) from rfl, put_f l v 4 (by omega) hl k hk]; rfl
theorem cut_size (s : ByteArray) : ((s.extract 0 65535).size : Int) = mn (s.size : Int) 65535 := by
  rw [ByteArray.size_extract]; unfold mn; split <;> omega
theorem cut_mn (s : ByteArray) : s.extract 0 (mn (s.size : Int) 65535).toNat = s.extract 0 65535 := by
  unfold mn
  split
  · rfl
  · rw [Int.toNat_natCast]
    apply data_inj
    rw [ByteArray.data_extract, ByteArray.data_extract, Array.toList_extract, Array.toList_extract]
    simp
    omega
theorem bytesOf_len (s : ByteArray) : (bytesOf s).length = s.size := by unfold bytesOf; rw [List.length_map, Array.length_toList]; rfl
theorem putText_f (l : List Int) (s : ByteArray) (hs : s.size ≤ 9223372036854775807) (hl : l.length + 2 < 140737488355328) (k : Nat) (hk : 2 < k) : fix_PutText.f k l s = some (l ++ textE s) := by
  have hc := cut_size s
  have h1 : 0 ≤ mn (s.size : Int) 65535 ∧ mn (s.size : Int) 65535 ≤ (s.size : Int) ∧ mn (s.size : Int) 65535 ≤ 65535 := by unfold mn; split <;> omega
  unfold fix_PutText.f
  rw [if_pos h1.1, if_pos h1.2.1, cut_mn, put16_f l _ (by omega) k hk, Option.bind_some, if_pos (by rw [List.length_append, bigE_length]; omega)]
  unfold textE
  rw [List.append_assoc]
theorem and255 (x : Int) (h0 : -9223372036854775808 ≤ x) (h1 : x ≤ 9223372036854775807) : bits .and .i64 x 255 = x % 256 := by
  show IntKind.i64.wrap ((BitVec.ofInt 64 x &&& BitVec.ofInt 64 255).toNat : Int) = _
  have e : (BitVec.ofInt 64 255).toNat = 255 := by decide
  rw [BitVec.toNat_and, e, show (255 : Nat) = 2 ^ 8 - 1 from rfl, Nat.and_two_pow_sub_one_eq_mod, BitVec.toNat_ofInt, IntKind.wrap_i64]
  omega
theorem number_loop (m : Nat) : ∀ (j : Nat) (k : Nat) (v : Int) (s : List Int), j ≤ m → j < k → m ≤ 8 → s.length + j ≤ 100 → -9223372036854775808 ≤ v → v ≤ 9223372036854775807 →
    sapwoodref01_Number.l0 k v (m : Int) (strOfNums s) ((m : Int) - (j : Int)) = some (strOfNums (bigE v j ++ s)) := by
  intro j
  induction j with
  | zero =>
    intro k v s _ hk _ _ _ _
    obtain ⟨k, rfl⟩ : ∃ m, k = m + 1 := ⟨k - 1, by omega⟩
    simp only [sapwoodref01_Number.l0]
    rw [if_neg (by omega)]
    simp [bigE]
  | succ j ih =>
    intro k v s hj hk hm hs h0 h1
    obtain ⟨k, rfl⟩ : ∃ m, k = m + 1 := ⟨k - 1, by omega⟩
    simp only [sapwoodref01_Number.l0]
    rw [if_pos (by omega), Option.bind_some, if_pos (by rw [str_size, str_size]; simp; omega), and255 v h0 h1, ← str_append, wrap_in (by omega) (by omega), show (m : Int) - ((j + 1 : Nat) : Int) + 1 = (m : Int) - (j : Int) by omega,
      show v % 256 % 256 = v % 256 by omega, ih k (v / 256) _ (by omega) (by omega) hm (by simp; omega) (by omega) (by omega), bigE, List.append_assoc]
theorem number_f (v : Int) (m : Nat) (hm : m ≤ 8) (h0 : -9223372036854775808 ≤ v) (h1 : v ≤ 9223372036854775807) (k : Nat) (hk : m < k) : sapwoodref01_Number.f k v (m : Int) = some (strOfNums (bigE v m)) := by
  have h := number_loop m m k v [] (Nat.le_refl _) hk hm (by simp; omega) h0 h1
  unfold sapwoodref01_Number.f
  rw [Int.sub_self, List.append_nil] at h
  exact h
theorem text_f (s : ByteArray) (hs : s.size ≤ 9223372036854775807) (k : Nat) (hk : 2 < k) : sapwoodref01_Text.f k s = some (strOfNums (textE s)) := by
  have hc := cut_size s
  unfold sapwoodref01_Text.f textE
  by_cases h : (s.size : Int) > 65535
  · rw [if_pos h, if_pos (by omega), if_pos (by omega), show (2 : Int) = ((2 : Nat) : Int) from rfl, number_f _ 2 (by omega) (by omega) (by rw [ByteArray.size_extract]; omega) k hk, Option.bind_some, if_pos (by rw [str_size, bigE_length, ByteArray.size_extract]; omega), str_append, str_bytes]
  · have e : s.extract 0 65535 = s := by
      have := cut_mn s
      rw [show mn (s.size : Int) 65535 = (s.size : Int) by unfold mn; rw [if_neg (by omega)], Int.toNat_natCast] at this
      rw [← this]
      apply data_inj
      rw [ByteArray.data_extract, Array.toList_extract]
      simp only [List.extract_eq_take_drop, List.drop_zero, Nat.sub_zero]
      exact List.take_of_length_le (by rw [Array.length_toList]; exact Nat.le_refl _)
    rw [if_neg h, e, show (2 : Int) = ((2 : Nat) : Int) from rfl, number_f _ 2 (by omega) (by omega) (by omega) k hk, Option.bind_some, if_pos (by rw [str_size, bigE_length]; omega), str_append, str_bytes]
theorem textE_by (s : ByteArray) : ∀ x ∈ textE s, 0 ≤ x ∧ x ≤ 255 := by
  intro x hx
  unfold textE at hx
  rw [List.mem_append] at hx
  rcases hx with hx | hx
  · exact bigE_by _ _ x hx
  · exact bytesOf_by _ x hx
end Go.Proofs.Ytnidooobefoahaa.Pure
