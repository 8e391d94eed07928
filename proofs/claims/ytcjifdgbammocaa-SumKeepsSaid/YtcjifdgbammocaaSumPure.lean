/- What the printed functions of the sum package come to: seal, open, equal; in plain Lean. -/
import Derived.Test.YtcjifdgbammocaaSp1
namespace Go.Proofs.Ytcjifdgbammocaa.Pure
open Go.Proofs.Ytcjifdgbammocaa.Hand
open Go.RowKit Go.Proofs.Ytcjifdgbammocaa.Sp Go.Proofs.YtcjifdgbammocaaW.PrintWords Go.Proofs.YtcjifdgbammocaaW.PrintLast

def four (c : Int) : List Int := [c / 16777216 % 256, c / 65536 % 256, c / 256 % 256, c % 256]
def sealL (l : List Int) : List Int := l ++ four (Crc.crc l)
theorem four_length (c : Int) : (four c).length = 4 := rfl
theorem sealL_length (l : List Int) : (sealL l).length = l.length + 4 := by simp [sealL, four_length]
theorem four_bytes (c : Int) : (four c).all isB = true := by
  simp only [four, List.all_cons, List.all_nil, isB, Bool.and_true, Bool.and_eq_true, decide_eq_true_eq]
  omega
theorem sealL_bytes {l : List Int} (h : l.all isB = true) : (sealL l).all isB = true := by
  unfold sealL
  rw [List.all_append, h, four_bytes]; rfl

theorem wrap_in {x : Int} (h0 : -9223372036854775808 ≤ x) (h1 : x ≤ 9223372036854775807) : wrap64 x = x := by unfold wrap64; omega

theorem seal_f {l : List Int} (hB : l.all isB = true) (hl : l.length ≤ 100000000) : sum_Seal.f l = some (sealL l) := by
  have e : sum_Of.f l = some (Crc.crc l) := by unfold sum_Of.f; rw [if_pos hB]
  have hw : wrap64 ((l.length : Int) + 4) = (l.length : Int) + 4 := wrap_in (by omega) (by omega)
  unfold sum_Seal.f
  rw [e]
  generalize hc : Crc.crc l = c
  simp only [Option.bind_some, List.nil_append, hw, List.length_nil, List.length_cons]
  have h1 : (0 : Int) ≤ (l.length : Int) + 4 := by omega
  have h2 : ((l.length : Int) + 4).toNat ≤ 281474976710656 := by omega
  have h3 : 0 + l.length < 140737488355328 := by omega
  have h4 : l.length + (0 + 1 + 1 + 1 + 1) < 140737488355328 := by omega
  rw [if_pos h1, if_pos h2, if_pos h3, if_pos h4]
  unfold sealL four
  rw [hc]

theorem equal_loop (a b : List Int) (hab : a.length = b.length) (ha : a.length ≤ 100000000) (d : Nat) : ∀ (k : Nat) (i : Nat), i ≤ a.length → a.length - i = d → d < k → slices_Equal_byte_byte.l0 k a b (a.length : Int) (i : Int) = some (decide (a.drop i = b.drop i)) := by
  induction d with
  | zero =>
    intro k i hi hd hk
    obtain ⟨k, rfl⟩ : ∃ m, k = m + 1 := ⟨k - 1, by omega⟩
    simp only [slices_Equal_byte_byte.l0]
    rw [if_neg (by omega), List.drop_of_length_le (by omega), List.drop_of_length_le (by omega)]
    simp
  | succ d ih =>
    intro k i hi hd hk
    obtain ⟨k, rfl⟩ : ∃ m, k = m + 1 := ⟨k - 1, by omega⟩
    have hia : i < a.length := by omega
    have hib : i < b.length := by omega
    simp only [slices_Equal_byte_byte.l0]
    rw [if_pos (by omega), if_pos (by omega), if_pos (by omega), if_pos (by omega)]
    have ra : rd a (i : Int) = a[i] := by unfold rd; simp [hia]
    have rb : rd b (i : Int) = b[i] := by unfold rd; simp [hib]
    rw [ra, rb, List.drop_eq_getElem_cons hia, List.drop_eq_getElem_cons hib]
    by_cases e : a[i] = b[i]
    · rw [if_pos e, wrap_in (by omega) (by omega), show (i : Int) + 1 = ((i + 1 : Nat) : Int) by omega, ih k (i + 1) (by omega) (by omega) (by omega)]
      congr 1
      rw [decide_eq_decide, e]
      exact ⟨fun h => by rw [h], fun h => (List.cons.inj h).2⟩
    · rw [if_neg e]
      congr 1
      symm
      rw [decide_eq_false_iff_not]
      intro h
      injection h with h1 _
      exact e h1

theorem equal_f (a b : List Int) (ha : a.length ≤ 100000000) (k : Nat) (hk : a.length < k) : slices_Equal_byte_byte.f k a b = some (decide (a = b)) := by
  unfold slices_Equal_byte_byte.f
  by_cases h : a.length = b.length
  · rw [if_pos (by omega)]
    have := equal_loop a b h ha a.length k 0 (by omega) (by omega) hk
    simpa using this
  · rw [if_neg (by omega)]
    have : a ≠ b := fun e => h (by rw [e])
    simp [this]

def opened (l : List Int) : Bool := decide (4 ≤ l.length ∧ sealL (l.take (l.length - 4)) = l)
theorem all_take {l : List Int} (h : l.all isB = true) (n : Nat) : (l.take n).all isB = true := by
  rw [List.all_eq_true] at h ⊢
  exact fun x hx => h x (List.mem_of_mem_take hx)
theorem open_f {l : List Int} (hB : l.all isB = true) (hl : l.length ≤ 10000000) (k : Nat) (hk : l.length < k) :
    sum_Open.f k l = some (if opened l = true then (l.take (l.length - 4), true) else ([], false)) := by
  unfold sum_Open.f
  rw [wrap_in (by omega) (by omega)]
  by_cases h4 : 4 ≤ l.length
  · have hn : ((l.length : Int) - 4).toNat = l.length - 4 := by omega
    rw [if_neg (by omega), if_pos (by omega), if_pos (by omega), hn, seal_f (all_take hB _) (by simp; omega)]
    simp only [Option.bind_some]
    rw [equal_f _ _ (by rw [sealL_length]; simp; omega) k (by rw [sealL_length]; simp; omega)]
    simp only [Option.bind_some]
    unfold opened slices_Clone_byte_byte.f
    by_cases e : sealL (l.take (l.length - 4)) = l
    · rw [if_pos (by simp [e]), if_pos (by simp; omega), if_pos (by simp [e, h4])]
      rfl
    · rw [if_neg (by simp [e]), if_neg (by simp [e])]
  · rw [if_pos (by omega), if_neg (by simp [opened]; omega)]

theorem opened_seal (l : List Int) : opened (sealL l) = true := by
  unfold opened
  rw [sealL_length]
  have : (sealL l).take (l.length + 4 - 4) = l := by simp [sealL]
  rw [this]
  simp
theorem take_seal (l : List Int) : (sealL l).take ((sealL l).length - 4) = l := by
  rw [sealL_length]; simp [sealL]

theorem bytesOf_all (s : ByteArray) : (bytesOf s).all isB = true := by
  rw [List.all_eq_true]
  intro x hx
  unfold bytesOf at hx
  obtain ⟨b, _, rfl⟩ := List.mem_map.1 hx
  rw [isB_iff]
  have := b.toNat_lt
  omega
theorem str_bytes (s : ByteArray) : strOfNums (bytesOf s) = s := by
  unfold bytesOf strOfNums
  rw [List.map_map]
  have : ((fun n : Int => UInt8.ofNat n.toNat) ∘ fun b : UInt8 => (b.toNat : Int)) = id := by
    funext b
    simp
  rw [this, List.map_id]
end Go.Proofs.Ytcjifdgbammocaa.Pure
