/- The check of 32 bits, in plain Lean: a register of 32 bits, one step a bit; nothing of the program is used here. -/
import Derived.Laws.BitsAllLaws
import Derived.Laws.BitsLemmas
import Derived.RowKit
namespace Go.Proofs.Ytcjifdgbammocaa.Crc
open Go.RowKit

abbrev W := BitVec 32
def G : W := 0x04c11db7#32
def step (r : W) : W := (r <<< 1) ^^^ (if r.msb then G else 0#32)
def steps : Nat → W → W
  | 0, r => r
  | n + 1, r => steps n (step r)

theorem xor_mix (a b c d : W) : a ^^^ b ^^^ (c ^^^ d) = (a ^^^ c) ^^^ (b ^^^ d) := by
  rw [BitVec.xor_assoc, BitVec.xor_assoc, ← BitVec.xor_assoc b c d, BitVec.xor_comm b c, BitVec.xor_assoc c b d]

theorem step_xor (a b : W) : step (a ^^^ b) = step a ^^^ step b := by
  unfold step
  rw [BitVec.shiftLeft_xor_distrib, BitVec.msb_xor, xor_mix]
  congr 1
  cases a.msb <;> cases b.msb <;> simp

theorem steps_xor (n : Nat) : ∀ a b : W, steps n (a ^^^ b) = steps n a ^^^ steps n b := by
  induction n with
  | zero => intro a b; rfl
  | succ n ih => intro a b; simp only [steps]; rw [step_xor, ih]

theorem steps_add (m n : Nat) : ∀ r : W, steps n (steps m r) = steps (m + n) r := by
  induction m with
  | zero => intro r; simp [steps]
  | succ m ih => intro r; simp only [steps, Nat.succ_add]; rw [ih]

theorem step_zero : step 0#32 = 0#32 := by decide
theorem steps_zero (n : Nat) : steps n 0#32 = 0#32 := by
  induction n with
  | zero => rfl
  | succ n ih => simp only [steps]; rw [step_zero, ih]

theorem step_eq_zero (r : W) (h : step r = 0#32) : r = 0#32 := by
  unfold step at h
  cases hm : r.msb with
  | true =>
    rw [hm] at h
    have h0 := congrArg (fun x : W => x.getLsbD 0) h
    simp [G] at h0
  | false =>
    rw [hm] at h
    simp only [Bool.false_eq_true, if_false, BitVec.xor_zero] at h
    have ht := congrArg BitVec.toNat h
    rw [BitVec.msb_eq_decide] at hm
    simp at hm ht
    apply BitVec.eq_of_toNat_eq
    simp
    omega

theorem steps_eq_zero (n : Nat) : ∀ r : W, steps n r = 0#32 → r = 0#32 := by
  induction n with
  | zero => intro r h; exact h
  | succ n ih => intro r h; exact step_eq_zero r (ih _ h)

theorem xor_eq_zero {a b : W} (h : a ^^^ b = 0#32) : a = b := by
  have : (a ^^^ b) ^^^ b = 0#32 ^^^ b := by rw [h]
  rw [BitVec.xor_assoc, BitVec.xor_self, BitVec.xor_zero, BitVec.zero_xor] at this
  exact this

theorem steps_inj (n : Nat) (a b : W) (h : steps n a = steps n b) : a = b := by
  apply xor_eq_zero
  apply steps_eq_zero n
  rw [steps_xor, h, BitVec.xor_self]

theorem step_small (r : W) (h : r.toNat < 2147483648) : step r = r <<< 1 := by
  have hm : r.msb = false := by rw [BitVec.msb_eq_decide]; simp; omega
  unfold step
  rw [hm]; simp

theorem steps_small (n : Nat) : ∀ r : W, r.toNat * 2 ^ n < 4294967296 → steps n r = r <<< n := by
  induction n with
  | zero => intro r _; simp [steps]
  | succ n ih =>
    intro r h
    have hp : 0 < 2 ^ n := Nat.two_pow_pos n
    have h1 : r.toNat * 2 < 4294967296 := by
      have : r.toNat * 2 * 1 ≤ r.toNat * 2 * 2 ^ n := Nat.mul_le_mul_left _ hp
      rw [Nat.pow_succ, Nat.mul_comm (2 ^ n) 2, ← Nat.mul_assoc] at h
      omega
    simp only [steps]
    rw [step_small r (by omega)]
    have h2 : (r <<< 1).toNat = r.toNat * 2 := by
      rw [BitVec.toNat_shiftLeft, Nat.shiftLeft_eq]
      simp; omega
    rw [ih _ (by rw [h2, Nat.mul_assoc, ← Nat.pow_succ']; exact h), ← BitVec.shiftLeft_add, Nat.add_comm]

/-! ### half bytes -/
def tab : List Nat := [0x00000000, 0x04c11db7, 0x09823b6e, 0x0d4326d9, 0x130476dc, 0x17c56b6b, 0x1a864db2, 0x1e475005,
  0x2608edb8, 0x22c9f00f, 0x2f8ad6d6, 0x2b4bcb61, 0x350c9b64, 0x31cd86d3, 0x3c8ea00a, 0x384fbdbd]
theorem tab_ok : ∀ q : Fin 16, BitVec.ofNat 32 (tab.getD q.val 0) = steps 4 (BitVec.ofNat 32 q.val <<< 28) := by decide
theorem tab_lt : ∀ q : Fin 16, tab.getD q.val 0 < 4294967296 := by decide

theorem split28 (r : W) : r = ((r >>> 28) <<< 28) ^^^ (r &&& 0x0fffffff#32) := by
  apply BitVec.eq_of_getLsbD_eq
  intro i hi
  simp only [BitVec.getLsbD_xor, BitVec.getLsbD_shiftLeft, BitVec.getLsbD_ushiftRight, BitVec.getLsbD_and]
  by_cases h : i < 28
  · have : (0x0fffffff#32).getLsbD i = true := by
      have : ∀ i : Fin 28, (0x0fffffff#32).getLsbD i.val = true := by decide
      exact this ⟨i, h⟩
    rw [this]; simp [h]
  · have h' : (0x0fffffff#32).getLsbD i = false := by
      have : ∀ i : Fin 4, (0x0fffffff#32).getLsbD (28 + i.val) = false := by decide
      have h2 := this ⟨i - 28, by omega⟩
      rw [show 28 + (i - 28) = i by omega] at h2
      exact h2
    rw [h']; simp [h, hi]
    rw [show 28 + (i - 28) = i by omega]
    exact (BitVec.getLsbD_eq_getElem hi).symm

theorem low28 (r : W) : (r &&& 0x0fffffff#32).toNat < 268435456 := by
  rw [BitVec.toNat_and]
  exact Nat.lt_of_le_of_lt Nat.and_le_right (by decide)
theorem low28_shift (r : W) : (r &&& 0x0fffffff#32) <<< 4 = r <<< 4 := by
  apply BitVec.eq_of_getLsbD_eq
  intro i hi
  simp only [BitVec.getLsbD_shiftLeft, BitVec.getLsbD_and]
  by_cases h : i < 4
  · simp [h]
  · have : ∀ i : Fin 28, (0x0fffffff#32).getLsbD i.val = true := by decide
    rw [this ⟨i - 4, by omega⟩]; simp

theorem nib (r h : W) (hh : h.toNat < 16) :
    (r <<< 4) ^^^ BitVec.ofNat 32 (tab.getD ((r >>> 28) ^^^ h).toNat 0) = steps 4 (r ^^^ (h <<< 28)) := by
  have hq : ((r >>> 28) ^^^ h).toNat < 16 := by
    rw [BitVec.toNat_xor]
    apply Nat.xor_lt_two_pow (n := 4)
    · rw [BitVec.toNat_ushiftRight, Nat.shiftRight_eq_div_pow]; have := r.isLt; omega
    · exact hh
  have ht := tab_ok ⟨_, hq⟩
  simp only [BitVec.ofNat_toNat] at ht
  rw [ht]
  have e : r ^^^ (h <<< 28) = (((r >>> 28) ^^^ h) <<< 28) ^^^ (r &&& 0x0fffffff#32) := by
    rw [BitVec.shiftLeft_xor_distrib]
    rw [BitVec.xor_assoc, BitVec.xor_comm (h <<< 28), ← BitVec.xor_assoc, ← split28 r]
  rw [e, steps_xor, steps_small 4 (r &&& 0x0fffffff#32) (by have := low28 r; omega), low28_shift, BitVec.xor_comm]
  simp

/-! ### bytes -/
def bst (r : W) (c : Int) : W := steps 8 (r ^^^ (BitVec.ofInt 32 c <<< 24))
def reg (r : W) (l : List Int) : W := l.foldl bst r
def ones : W := 4294967295#32
def crc (l : List Int) : Int := ((~~~ reg ones l).toNat : Int)

set_option maxRecDepth 20000 in
theorem halves_byte : ∀ c : Fin 256, (BitVec.ofNat 32 (c.val / 16) <<< 28) ^^^ (BitVec.ofNat 32 (c.val % 16) <<< 24) = BitVec.ofNat 32 c.val <<< 24 := by decide +kernel

theorem bst_nibs (r : W) (c : Nat) (hc : c < 256) : steps 4 (steps 4 (r ^^^ (BitVec.ofNat 32 (c / 16) <<< 28)) ^^^ (BitVec.ofNat 32 (c % 16) <<< 28)) = bst r (c : Int) := by
  have e : (BitVec.ofNat 32 (c % 16) <<< 28 : W) = steps 4 (BitVec.ofNat 32 (c % 16) <<< 24) := by
    rw [steps_small 4 _ (by
      rw [BitVec.toNat_shiftLeft, Nat.shiftLeft_eq, BitVec.toNat_ofNat]
      omega), ← BitVec.shiftLeft_add]
  rw [e, ← steps_xor, steps_add, BitVec.xor_assoc]
  have h := halves_byte ⟨c, hc⟩
  simp only at h
  rw [h]
  unfold bst
  simp

/-! ### the walk's own spelling -/
def tabI (i : Int) : Int := ((tab.getD i.toNat 0 : Nat) : Int)
theorem tabI_range (i : Int) : 0 ≤ tabI i ∧ tabI i ≤ 4294967295 := by
  refine ⟨by unfold tabI; omega, ?_⟩
  unfold tabI
  by_cases h : i.toNat < 16
  · have := tab_lt ⟨i.toNat, h⟩
    simp only at this
    omega
  · have : tab.getD i.toNat 0 = 0 := by
      rw [List.getD_eq_getElem?_getD, List.getElem?_eq_none (by simp [tab]; omega)]; rfl
    rw [this]; decide

theorem idx_range (n : W) (h : Int) (h0 : 0 ≤ h) (h1 : h < 16) : bits .xor .u32 ((n.toNat : Int) / 268435456) h = ((((n >>> 28) ^^^ BitVec.ofInt 32 h).toNat : Nat) : Int) ∧
    0 ≤ bits .xor .u32 ((n.toNat : Int) / 268435456) h ∧ bits .xor .u32 ((n.toNat : Int) / 268435456) h < 16 := by
  have hn := n.isLt
  have e : bits .xor .u32 ((n.toNat : Int) / 268435456) h = ((((n >>> 28) ^^^ BitVec.ofInt 32 h).toNat : Nat) : Int) := by
    rw [u32_xor _ _ (by omega) (by omega) h0 (by omega)]
    obtain ⟨k, rfl⟩ := Int.eq_ofNat_of_zero_le h0
    rw [BitVec.toNat_xor, BitVec.toNat_ushiftRight, Nat.shiftRight_eq_div_pow, ofInt_u32 k (by omega)]
    congr 1
  refine ⟨e, by rw [e]; omega, ?_⟩
  rw [e]
  have : ((n >>> 28) ^^^ BitVec.ofInt 32 h).toNat < 2 ^ 4 := by
    obtain ⟨k, rfl⟩ := Int.eq_ofNat_of_zero_le h0
    rw [BitVec.toNat_xor]
    apply Nat.xor_lt_two_pow (n := 4)
    · rw [BitVec.toNat_ushiftRight, Nat.shiftRight_eq_div_pow]; omega
    · rw [ofInt_u32 k (by omega)]; omega
  omega

theorem walk_nib (n : W) (h : Int) (h0 : 0 ≤ h) (h1 : h < 16) :
    bits .xor .u32 ((n.toNat : Int) * 16 % 4294967296) (tabI (bits .xor .u32 ((n.toNat : Int) / 268435456) h)) = ((steps 4 (n ^^^ (BitVec.ofInt 32 h <<< 28))).toNat : Int) := by
  have hn := n.isLt
  obtain ⟨e, _, hl⟩ := idx_range n h h0 h1
  have ht := tabI_range (bits .xor .u32 ((n.toNat : Int) / 268435456) h)
  rw [u32_xor _ _ (by omega) (by omega) ht.1 (by omega)]
  have hv : (BitVec.ofInt 32 h).toNat < 16 := by
    obtain ⟨k, rfl⟩ := Int.eq_ofNat_of_zero_le h0
    rw [ofInt_u32 k (by omega)]; omega
  rw [← nib n (BitVec.ofInt 32 h) hv, BitVec.toNat_xor, e]
  congr 1
  congr 1
  · rw [BitVec.toNat_shiftLeft, Nat.shiftLeft_eq]; omega
  · unfold tabI
    simp only [Int.toNat_natCast, BitVec.toNat_ofNat]
    have := tab_lt ⟨((n >>> 28) ^^^ BitVec.ofInt 32 h).toNat, by rw [e] at hl; omega⟩
    simp only at this
    omega

theorem walk_byte (n : W) (c : Int) (h0 : 0 ≤ c) (h1 : c ≤ 255) :
    bits .xor .u32 (bits .xor .u32 ((n.toNat : Int) * 16 % 4294967296) (tabI (bits .xor .u32 ((n.toNat : Int) / 268435456) (c / 16))) * 16 % 4294967296)
      (tabI (bits .xor .u32 (bits .xor .u32 ((n.toNat : Int) * 16 % 4294967296) (tabI (bits .xor .u32 ((n.toNat : Int) / 268435456) (c / 16))) / 268435456) (c % 16))) = ((bst n c).toNat : Int) := by
  rw [walk_nib n (c / 16) (by omega) (by omega), walk_nib _ (c % 16) (by omega) (by omega)]
  obtain ⟨k, rfl⟩ := Int.eq_ofNat_of_zero_le h0
  rw [← bst_nibs n k (by omega)]
  congr 3

theorem not_xor (n : W) : bits .xor .u32 IntKind.u32.max (n.toNat : Int) = ((~~~ n).toNat : Int) := by
  have hn := n.isLt
  have hm : IntKind.u32.max = 4294967295 := by decide
  rw [hm, u32_xor _ _ (by omega) (by omega) (by omega) (by omega)]
  congr 1

/-! ### lists of words -/
def regW (r : W) (l : List W) : W := l.foldl (fun (r v : W) => steps 8 (r ^^^ (v <<< 24))) r
theorem reg_eq (r : W) (l : List Int) : reg r l = regW r (l.map (BitVec.ofInt 32)) := by
  unfold reg regW
  rw [List.foldl_map]
  rfl
theorem reg_append (r : W) (a b : List Int) : reg r (a ++ b) = reg (reg r a) b := by unfold reg; rw [List.foldl_append]
theorem regW_cons (r v : W) (l : List W) : regW r (v :: l) = regW (steps 8 (r ^^^ (v <<< 24))) l := rfl
theorem regW_append (r : W) (a b : List W) : regW r (a ++ b) = regW (regW r a) b := by unfold regW; rw [List.foldl_append]

theorem regW_xor (a : List W) : ∀ (b : List W) (r s : W), a.length = b.length → regW (r ^^^ s) (List.zipWith (· ^^^ ·) a b) = regW r a ^^^ regW s b := by
  induction a with
  | nil => intro b r s h; cases b with
    | nil => rfl
    | cons _ _ => simp at h
  | cons x a ih =>
    intro b r s h
    cases b with
    | nil => simp at h
    | cons y b =>
      simp only [List.zipWith_cons_cons, regW_cons]
      rw [BitVec.shiftLeft_xor_distrib, xor_mix, steps_xor]
      exact ih b _ _ (by simpa using h)

/-- One more word xored into the register: what it becomes. -/
theorem regW_reg (l : List W) : ∀ (r d : W), regW (r ^^^ d) l = regW r l ^^^ steps (8 * l.length) d := by
  induction l with
  | nil => intro r d; simp [regW, steps]
  | cons v l ih =>
    intro r d
    rw [regW_cons, regW_cons, BitVec.xor_assoc, BitVec.xor_comm d, ← BitVec.xor_assoc, steps_xor, ih, steps_add]
    congr 2
    simp; omega

theorem regW_set (l : List W) : ∀ (j : Nat) (r d : W), j < l.length → regW r (l.set j (l.getD j 0#32 ^^^ d)) = regW r l ^^^ steps (8 * (l.length - j)) (d <<< 24) := by
  induction l with
  | nil => intro j r d h; simp at h
  | cons v l ih =>
    intro j r d h
    cases j with
    | zero =>
      simp only [List.set_cons_zero, List.getD_cons_zero, regW_cons]
      rw [BitVec.shiftLeft_xor_distrib, ← BitVec.xor_assoc, steps_xor, regW_reg, steps_add]
      congr 2
      simp; omega
    | succ j =>
      simp only [List.set_cons_succ, List.getD_cons_succ, regW_cons]
      rw [ih j _ d (by simpa using h)]
      congr 2
      simp

/-! ### words of four bytes -/
theorem word_join (a b : Nat) (hb : b < 256) : BitVec.ofNat 32 (a * 256 + b) = (BitVec.ofNat 32 a <<< 8) ^^^ BitVec.ofNat 32 b := by
  apply BitVec.eq_of_getLsbD_eq
  intro i hi
  rw [BitVec.getLsbD_xor, BitVec.getLsbD_shiftLeft, BitVec.getLsbD_ofNat, BitVec.getLsbD_ofNat, BitVec.getLsbD_ofNat, Nat.mul_comm a 256, show 256 = 2 ^ 8 from rfl, Nat.testBit_two_pow_mul_add a hb]
  by_cases h : i < 8
  · simp [h, hi]
  · have : b.testBit i = false := Nat.testBit_lt_two_pow (Nat.lt_of_lt_of_le hb (by
      have := Nat.pow_le_pow_right (n := 2) (by decide) (show 8 ≤ i by omega)
      omega))
    simp [h, hi, this]
    intro _; omega

theorem regW_four' (r x1 x2 x3 x4 : W) (h2 : x2.toNat < 256) (h3 : x3.toNat < 256) (h4 : x4.toNat < 256) :
    regW r [x1, x2, x3, x4] = steps 32 (r ^^^ (((x1 <<< 24) ^^^ (x2 <<< 16)) ^^^ (x3 <<< 8) ^^^ x4)) := by
  have e1 : x2 <<< 24 = steps 8 (x2 <<< 16) := by
    rw [steps_small 8 _ (by rw [BitVec.toNat_shiftLeft, Nat.shiftLeft_eq]; omega), ← BitVec.shiftLeft_add]
  have e2 : x3 <<< 24 = steps 16 (x3 <<< 8) := by
    rw [steps_small 16 _ (by rw [BitVec.toNat_shiftLeft, Nat.shiftLeft_eq]; omega), ← BitVec.shiftLeft_add]
  have e3 : x4 <<< 24 = steps 24 x4 := by
    rw [steps_small 24 _ (by omega)]
  have e0 : ∀ q : W, regW q [] = q := fun _ => rfl
  rw [regW_cons, regW_cons, regW_cons, regW_cons, e0, e1, ← steps_xor, steps_add, e2, ← steps_xor, steps_add, e3, ← steps_xor, steps_add]
  simp only [BitVec.xor_assoc]

theorem regW_four (r : W) (a b c d : Nat) (hb : b < 256) (hc : c < 256) (hd : d < 256) :
    regW r [BitVec.ofNat 32 a, BitVec.ofNat 32 b, BitVec.ofNat 32 c, BitVec.ofNat 32 d] = steps 32 (r ^^^ BitVec.ofNat 32 (((a * 256 + b) * 256 + c) * 256 + d)) := by
  have tn : ∀ x : Nat, x < 256 → (BitVec.ofNat 32 x).toNat < 256 := fun x hx => by rw [BitVec.toNat_ofNat]; omega
  rw [regW_four' r _ _ _ _ (tn b hb) (tn c hc) (tn d hd), word_join _ d hd, word_join _ c hc, word_join _ b hb]
  simp only [BitVec.shiftLeft_xor_distrib, ← BitVec.shiftLeft_add]
end Go.Proofs.Ytcjifdgbammocaa.Crc
