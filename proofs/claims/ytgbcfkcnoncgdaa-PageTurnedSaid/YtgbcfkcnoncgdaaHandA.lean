/- By hand: the check of bytes, a clone, and each call of the reader of package fix: what it answers, and where the reader stands behind. No condition. -/
import Derived.Laws.BitsAllLaws
import Derived.Laws.BitsLemmas
import Derived.RowKit
import Derived.Test.YtgbcfkcnoncgdaaProg
import Derived.Test.YtgbcfkcnoncgdaaWMore
import Derived.WalkKit
import Derived.Lib.SliceRun
import Derived.Deep.QuietTactic
import Derived.BigQuiet
import Derived.IntWalk
import Derived.Lib.Hide
import Derived.Outline
import Derived.RegionTactic
namespace Go.Proofs.Ytgbcfkcnoncgdaa.Crc
open Go.RowKit
abbrev W := BitVec 32
def G : W := 0x04c11db7#32
def step (r : W) : W := (r <<< 1) ^^^ (if r.msb then G else 0#32)
def steps : Nat → W → W
  | 0, r => r
  | n + 1, r => steps n (step r)
theorem xor_mix (a b c d : W) : a ^^^ b ^^^ (c ^^^ d) = (a ^^^ c) ^^^ (b ^^^ d) := by
  rw [BitVec.xor_assoc, BitVec.xor_assoc, ← BitVec.xor_assoc b c d, BitVec.xor_comm b c, BitVec.xor_assoc c b d]
theorem step_xor (a b : W) : step (a ^^^ b) = step a ^^^ step b := by
  unfold step
  rw [BitVec.shiftLeft_xor_distrib, BitVec.msb_xor, xor_mix]
  congr 1
  cases a.msb <;> cases b.msb <;> simp
theorem steps_xor (n : Nat) : ∀ a b : W, steps n (a ^^^ b) = steps n a ^^^ steps n b := by
  induction n with
  | zero => intro a b; rfl
  | succ n ih => intro a b; simp only [steps]; rw [step_xor, ih]
theorem steps_add (m n : Nat) : ∀ r : W, steps n (steps m r) = steps (m + n) r := by
  induction m with
  | zero => intro r; simp [steps]
  | succ m ih => intro r; simp only [steps, Nat.succ_add]; rw [ih]
theorem step_zero : step 0#32 = 0#32 := by decide
theorem steps_zero (n : Nat) : steps n 0#32 = 0#32 := by
  induction n with
  | zero => rfl
  | succ n ih => simp only [steps]; rw [step_zero, ih]
theorem step_eq_zero (r : W) (h : step r = 0#32) : r = 0#32 := by
  unfold step at h
  cases hm : r.msb with
  | true =>
    rw [hm] at h
    have h0 := congrArg (fun x : W => x.getLsbD 0) h
    simp [G] at h0
  | false =>
    rw [hm] at h
    simp only [Bool.false_eq_true, if_false, BitVec.xor_zero] at h
    have ht := congrArg BitVec.toNat h
    rw [BitVec.msb_eq_decide] at hm
    simp at hm ht
    apply BitVec.eq_of_toNat_eq
    simp
    omega
theorem steps_eq_zero (n : Nat) : ∀ r : W, steps n r = 0#32 → r = 0#32 := by
  induction n with
  | zero => intro r h; exact h
  | succ n ih => intro r h; exact step_eq_zero r (ih _ h)
theorem xor_eq_zero {a b : W} (h : a ^^^ b = 0#32) : a = b := by
  have : (a ^^^ b) ^^^ b = 0#32 ^^^ b := by rw [h]
  rw [BitVec.xor_assoc, BitVec.xor_self, BitVec.xor_zero, BitVec.zero_xor] at this
  exact this
theorem steps_inj (n : Nat) (a b : W) (h : steps n a = steps n b) : a = b := by
  apply xor_eq_zero
  apply steps_eq_zero n
  rw [steps_xor, h, BitVec.xor_self]
theorem step_small (r : W) (h : r.toNat < 2147483648) : step r = r <<< 1 := by
  have hm : r.msb = false := by rw [BitVec.msb_eq_decide]; simp; omega
  unfold step
  rw [hm]; simp
theorem steps_small (n : Nat) : ∀ r : W, r.toNat * 2 ^ n < 4294967296 → steps n r = r <<< n := by
  induction n with
  | zero => intro r _; simp [steps]
  | succ n ih =>
    intro r h
    have hp : 0 < 2 ^ n := Nat.two_pow_pos n
    have h1 : r.toNat * 2 < 4294967296 := by
      have : r.toNat * 2 * 1 ≤ r.toNat * 2 * 2 ^ n := Nat.mul_le_mul_left _ hp
      rw [Nat.pow_succ, Nat.mul_comm (2 ^ n) 2, ← Nat.mul_assoc] at h
      omega
    simp only [steps]
    rw [step_small r (by omega)]
    have h2 : (r <<< 1).toNat = r.toNat * 2 := by
      rw [BitVec.toNat_shiftLeft, Nat.shiftLeft_eq]
      simp; omega
    rw [ih _ (by rw [h2, Nat.mul_assoc, ← Nat.pow_succ']; exact h), ← BitVec.shiftLeft_add, Nat.add_comm]
def tab : List Nat := [0x00000000, 0x04c11db7, 0x09823b6e, 0x0d4326d9, 0x130476dc, 0x17c56b6b, 0x1a864db2, 0x1e475005,
  0x2608edb8, 0x22c9f00f, 0x2f8ad6d6, 0x2b4bcb61, 0x350c9b64, 0x31cd86d3, 0x3c8ea00a, 0x384fbdbd]
theorem tab_ok : ∀ q : Fin 16, BitVec.ofNat 32 (tab.getD q.val 0) = steps 4 (BitVec.ofNat 32 q.val <<< 28) := by decide
theorem tab_lt : ∀ q : Fin 16, tab.getD q.val 0 < 4294967296 := by decide
theorem split28 (r : W) : r = ((r >>> 28) <<< 28) ^^^ (r &&& 0x0fffffff#32) := by
  apply BitVec.eq_of_getLsbD_eq
  intro i hi
  simp only [BitVec.getLsbD_xor, BitVec.getLsbD_shiftLeft, BitVec.getLsbD_ushiftRight, BitVec.getLsbD_and]
  by_cases h : i < 28
  · have : (0x0fffffff#32).getLsbD i = true := by
      have : ∀ i : Fin 28, (0x0fffffff#32).getLsbD i.val = true := by decide
      exact this ⟨i, h⟩
    rw [this]; simp [h]
  · have h' : (0x0fffffff#32).getLsbD i = false := by
      have : ∀ i : Fin 4, (0x0fffffff#32).getLsbD (28 + i.val) = false := by decide
      have h2 := this ⟨i - 28, by omega⟩
      rw [show 28 + (i - 28) = i by omega] at h2
      exact h2
    rw [h']; simp [h, hi]
    rw [show 28 + (i - 28) = i by omega]
    exact (BitVec.getLsbD_eq_getElem hi).symm
theorem low28 (r : W) : (r &&& 0x0fffffff#32).toNat < 268435456 := by
  rw [BitVec.toNat_and]
  exact Nat.lt_of_le_of_lt Nat.and_le_right (by decide)
theorem low28_shift (r : W) : (r &&& 0x0fffffff#32) <<< 4 = r <<< 4 := by
  apply BitVec.eq_of_getLsbD_eq
  intro i hi
  simp only [BitVec.getLsbD_shiftLeft, BitVec.getLsbD_and]
  by_cases h : i < 4
  · simp [h]
  · have : ∀ i : Fin 28, (0x0fffffff#32).getLsbD i.val = true := by decide
    rw [this ⟨i - 4, by omega⟩]; simp
theorem nib (r h : W) (hh : h.toNat < 16) :
    (r <<< 4) ^^^ BitVec.ofNat 32 (tab.getD ((r >>> 28) ^^^ h).toNat 0) = steps 4 (r ^^^ (h <<< 28)) := by
  have hq : ((r >>> 28) ^^^ h).toNat < 16 := by
    rw [BitVec.toNat_xor]
    apply Nat.xor_lt_two_pow (n := 4)
    · rw [BitVec.toNat_ushiftRight, Nat.shiftRight_eq_div_pow]; have := r.isLt; omega
    · exact hh
  have ht := tab_ok ⟨_, hq⟩
  simp only [BitVec.ofNat_toNat] at ht
  rw [ht]
  have e : r ^^^ (h <<< 28) = (((r >>> 28) ^^^ h) <<< 28) ^^^ (r &&& 0x0fffffff#32) := by
    rw [BitVec.shiftLeft_xor_distrib]
    rw [BitVec.xor_assoc, BitVec.xor_comm (h <<< 28), ← BitVec.xor_assoc, ← split28 r]
  rw [e, steps_xor, steps_small 4 (r &&& 0x0fffffff#32) (by have := low28 r; omega), low28_shift, BitVec.xor_comm]
  simp
def bst (r : W) (c : Int) : W := steps 8 (r ^^^ (BitVec.ofInt 32 c <<< 24))
def reg (r : W) (l : List Int) : W := l.foldl bst r
def ones : W := 4294967295#32
def crc (l : List Int) : Int := ((~~~ reg ones l).toNat : Int)
set_option maxRecDepth 20000 in
theorem halves_byte : ∀ c : Fin 256, (BitVec.ofNat 32 (c.val / 16) <<< 28) ^^^ (BitVec.ofNat 32 (c.val % 16) <<< 24) = BitVec.ofNat 32 c.val <<< 24 := by decide +kernel
theorem bst_nibs (r : W) (c : Nat) (hc : c < 256) : steps 4 (steps 4 (r ^^^ (BitVec.ofNat 32 (c / 16) <<< 28)) ^^^ (BitVec.ofNat 32 (c % 16) <<< 28)) = bst r (c : Int) := by
  have e : (BitVec.ofNat 32 (c % 16) <<< 28 : W) = steps 4 (BitVec.ofNat 32 (c % 16) <<< 24) := by
    rw [steps_small 4 _ (by
      rw [BitVec.toNat_shiftLeft, Nat.shiftLeft_eq, BitVec.toNat_ofNat]
      omega), ← BitVec.shiftLeft_add]
  rw [e, ← steps_xor, steps_add, BitVec.xor_assoc]
  have h := halves_byte ⟨c, hc⟩
  simp only at h
  rw [h]
  unfold bst
  simp
def tabI (i : Int) : Int := ((tab.getD i.toNat 0 : Nat) : Int)
theorem tabI_range (i : Int) : 0 ≤ tabI i ∧ tabI i ≤ 4294967295 := by
  refine ⟨by unfold tabI; omega, ?_⟩
  unfold tabI
  by_cases h : i.toNat < 16
  · have := tab_lt ⟨i.toNat, h⟩
    simp only at this
    omega
  · have : tab.getD i.toNat 0 = 0 := by
      rw [List.getD_eq_getElem?_getD, List.getElem?_eq_none (by simp [tab]; omega)]; rfl
    rw [this]; decide
theorem idx_range (n : W) (h : Int) (h0 : 0 ≤ h) (h1 : h < 16) : bits .xor .u32 ((n.toNat : Int) / 268435456) h = ((((n >>> 28) ^^^ BitVec.ofInt 32 h).toNat : Nat) : Int) ∧
    0 ≤ bits .xor .u32 ((n.toNat : Int) / 268435456) h ∧ bits .xor .u32 ((n.toNat : Int) / 268435456) h < 16 := by
  have hn := n.isLt
  have e : bits .xor .u32 ((n.toNat : Int) / 268435456) h = ((((n >>> 28) ^^^ BitVec.ofInt 32 h).toNat : Nat) : Int) := by
    rw [u32_xor _ _ (by omega) (by omega) h0 (by omega)]
    obtain ⟨k, rfl⟩ := Int.eq_ofNat_of_zero_le h0
    rw [BitVec.toNat_xor, BitVec.toNat_ushiftRight, Nat.shiftRight_eq_div_pow, ofInt_u32 k (by omega)]
    congr 1
  refine ⟨e, by rw [e]; omega, ?_⟩
  rw [e]
  have : ((n >>> 28) ^^^ BitVec.ofInt 32 h).toNat < 2 ^ 4 := by
    obtain ⟨k, rfl⟩ := Int.eq_ofNat_of_zero_le h0
    rw [BitVec.toNat_xor]
    apply Nat.xor_lt_two_pow (n := 4)
    · rw [BitVec.toNat_ushiftRight, Nat.shiftRight_eq_div_pow]; omega
    · rw [ofInt_u32 k (by omega)]; omega
  omega
theorem walk_nib (n : W) (h : Int) (h0 : 0 ≤ h) (h1 : h < 16) :
    bits .xor .u32 ((n.toNat : Int) * 16 % 4294967296) (tabI (bits .xor .u32 ((n.toNat : Int) / 268435456) h)) = ((steps 4 (n ^^^ (BitVec.ofInt 32 h <<< 28))).toNat : Int) := by
  have hn := n.isLt
  obtain ⟨e, _, hl⟩ := idx_range n h h0 h1
  have ht := tabI_range (bits .xor .u32 ((n.toNat : Int) / 268435456) h)
  rw [u32_xor _ _ (by omega) (by omega) ht.1 (by omega)]
  have hv : (BitVec.ofInt 32 h).toNat < 16 := by
    obtain ⟨k, rfl⟩ := Int.eq_ofNat_of_zero_le h0
    rw [ofInt_u32 k (by omega)]; omega
  rw [← nib n (BitVec.ofInt 32 h) hv, BitVec.toNat_xor, e]
  congr 1
  congr 1
  · rw [BitVec.toNat_shiftLeft, Nat.shiftLeft_eq]; omega
  · unfold tabI
    simp only [Int.toNat_natCast, BitVec.toNat_ofNat]
    have := tab_lt ⟨((n >>> 28) ^^^ BitVec.ofInt 32 h).toNat, by rw [e] at hl; omega⟩
    simp only at this
    omega
theorem walk_byte (n : W) (c : Int) (h0 : 0 ≤ c) (h1 : c ≤ 255) :
    bits .xor .u32 (bits .xor .u32 ((n.toNat : Int) * 16 % 4294967296) (tabI (bits .xor .u32 ((n.toNat : Int) / 268435456) (c / 16))) * 16 % 4294967296)
      (tabI (bits .xor .u32 (bits .xor .u32 ((n.toNat : Int) * 16 % 4294967296) (tabI (bits .xor .u32 ((n.toNat : Int) / 268435456) (c / 16))) / 268435456) (c % 16))) = ((bst n c).toNat : Int) := by
  rw [walk_nib n (c / 16) (by omega) (by omega), walk_nib _ (c % 16) (by omega) (by omega)]
  obtain ⟨k, rfl⟩ := Int.eq_ofNat_of_zero_le h0
  rw [← bst_nibs n k (by omega)]
  congr 3
theorem not_xor (n : W) : bits .xor .u32 IntKind.u32.max (n.toNat : Int) = ((~~~ n).toNat : Int) := by
  have hn := n.isLt
  have hm : IntKind.u32.max = 4294967295 := by decide
  rw [hm, u32_xor _ _ (by omega) (by omega) (by omega) (by omega)]
  congr 1
def regW (r : W) (l : List W) : W := l.foldl (fun (r v : W) => steps 8 (r ^^^ (v <<< 24))) r
theorem reg_eq (r : W) (l : List Int) : reg r l = regW r (l.map (BitVec.ofInt 32)) := by
  unfold reg regW
  rw [List.foldl_map]
  rfl
theorem reg_append (r : W) (a b : List Int) : reg r (a ++ b) = reg (reg r a) b := by unfold reg; rw [List.foldl_append]
theorem regW_cons (r v : W) (l : List W) : regW r (v :: l) = regW (steps 8 (r ^^^ (v <<< 24))) l := rfl
theorem regW_append (r : W) (a b : List W) : regW r (a ++ b) = regW (regW r a) b := by unfold regW; rw [List.foldl_append]
theorem regW_reg (l : List W) : ∀ (r d : W), regW (r ^^^ d) l = regW r l ^^^ steps (8 * l.length) d := by
  induction l with
  | nil => intro r d; simp [regW, steps]
  | cons v l ih =>
    intro r d
    rw [regW_cons, regW_cons, BitVec.xor_assoc, BitVec.xor_comm d, ← BitVec.xor_assoc, steps_xor, ih, steps_add]
    congr 2
    simp; omega
theorem regW_set (l : List W) : ∀ (j : Nat) (r d : W), j < l.length → regW r (l.set j (l.getD j 0#32 ^^^ d)) = regW r l ^^^ steps (8 * (l.length - j)) (d <<< 24) := by
  induction l with
  | nil => intro j r d h; simp at h
  | cons v l ih =>
    intro j r d h
    cases j with
    | zero =>
      simp only [List.set_cons_zero, List.getD_cons_zero, regW_cons]
      rw [BitVec.shiftLeft_xor_distrib, ← BitVec.xor_assoc, steps_xor, regW_reg, steps_add]
      congr 2
      simp; omega
    | succ j =>
      simp only [List.set_cons_succ, List.getD_cons_succ, regW_cons]
      rw [ih j _ d (by simpa using h)]
      congr 2
      simp
theorem word_join (a b : Nat) (hb : b < 256) : BitVec.ofNat 32 (a * 256 + b) = (BitVec.ofNat 32 a <<< 8) ^^^ BitVec.ofNat 32 b := by
  apply BitVec.eq_of_getLsbD_eq
  intro i hi
  rw [BitVec.getLsbD_xor, BitVec.getLsbD_shiftLeft, BitVec.getLsbD_ofNat, BitVec.getLsbD_ofNat, BitVec.getLsbD_ofNat, Nat.mul_comm a 256, show 256 = 2 ^ 8 from rfl, Nat.testBit_two_pow_mul_add a hb]
  by_cases h : i < 8
  · simp [h, hi]
  · have : b.testBit i = false := Nat.testBit_lt_two_pow (Nat.lt_of_lt_of_le hb (by
      have := Nat.pow_le_pow_right (n := 2) (by decide) (show 8 ≤ i by omega)
      omega))
    simp [h, hi, this]
    intro _; omega
theorem regW_four' (r x1 x2 x3 x4 : W) (h2 : x2.toNat < 256) (h3 : x3.toNat < 256) (h4 : x4.toNat < 256) :
    regW r [x1, x2, x3, x4] = steps 32 (r ^^^ (((x1 <<< 24) ^^^ (x2 <<< 16)) ^^^ (x3 <<< 8) ^^^ x4)) := by
  have e1 : x2 <<< 24 = steps 8 (x2 <<< 16) := by
    rw [steps_small 8 _ (by rw [BitVec.toNat_shiftLeft, Nat.shiftLeft_eq]; omega), ← BitVec.shiftLeft_add]
  have e2 : x3 <<< 24 = steps 16 (x3 <<< 8) := by
    rw [steps_small 16 _ (by rw [BitVec.toNat_shiftLeft, Nat.shiftLeft_eq]; omega), ← BitVec.shiftLeft_add]
  have e3 : x4 <<< 24 = steps 24 x4 := by
    rw [steps_small 24 _ (by omega)]
  have e0 : ∀ q : W, regW q [] = q := fun _ => rfl
  rw [regW_cons, regW_cons, regW_cons, regW_cons, e0, e1, ← steps_xor, steps_add, e2, ← steps_xor, steps_add, e3, ← steps_xor, steps_add]
  simp only [BitVec.xor_assoc]
theorem regW_four (r : W) (a b c d : Nat) (hb : b < 256) (hc : c < 256) (hd : d < 256) :
    regW r [BitVec.ofNat 32 a, BitVec.ofNat 32 b, BitVec.ofNat 32 c, BitVec.ofNat 32 d] = steps 32 (r ^^^ BitVec.ofNat 32 (((a * 256 + b) * 256 + c) * 256 + d)) := by
  have tn : ∀ x : Nat, x < 256 → (BitVec.ofNat 32 x).toNat < 256 := fun x hx => by rw [BitVec.toNat_ofNat]; omega
  rw [regW_four' r _ _ _ _ (tn b hb) (tn c hc) (tn d hd), word_join _ d hd, word_join _ c hc, word_join _ b hb]
  simp only [BitVec.shiftLeft_xor_distrib, ← BitVec.shiftLeft_add]
end Go.Proofs.Ytgbcfkcnoncgdaa.Crc
namespace Go.Proofs.Ytgbcfkcnoncgdaa.Hand
open Go.RowKit Go.Proofs.YtgbcfkcnoncgdaaW.PrintWords
set_option linter.unusedVariables false
def tabV : Array Value := #[.int .u32 0x00000000, .int .u32 0x04c11db7, .int .u32 0x09823b6e, .int .u32 0x0d4326d9,
    .int .u32 0x130476dc, .int .u32 0x17c56b6b, .int .u32 0x1a864db2, .int .u32 0x1e475005,
    .int .u32 0x2608edb8, .int .u32 0x22c9f00f, .int .u32 0x2f8ad6d6, .int .u32 0x2b4bcb61,
    .int .u32 0x350c9b64, .int .u32 0x31cd86d3, .int .u32 0x3c8ea00a, .int .u32 0x384fbdbd]
set_option maxHeartbeats 400000 in
theorem halves_any (w : World) : Calls Try.prog 55 #[] w fun e w' => e = .returned (.agg tabV) ∧ Below w.heap.size w w' := by
  go_enter Try.func55, Try.ntmps55
  go_wp2
  refine bodyPost_ret (v := .agg tabV) ?_ rfl ⟨rfl, ?_⟩
  · simp [results, Try.results55, go_sem, tabV]
  · exact (Below.refl _ _).alloc (Nat.le_refl _) _
def isB (x : Int) : Bool := decide (0 ≤ x) && decide (x ≤ 255)
theorem isB_iff (x : Int) : isB x = true ↔ 0 ≤ x ∧ x ≤ 255 := by simp [isB]
theorem allB {l : List Int} (h : l.all isB = true) (k : Nat) (hk : k < l.length) : 0 ≤ rd l k ∧ rd l k ≤ 255 := by
  have := (List.all_eq_true.1 h) l[k] (List.getElem_mem hk)
  rw [isB_iff] at this
  unfold rd
  rw [Int.toNat_natCast, List.getD_eq_getElem?_getD, List.getElem?_eq_getElem hk]
  exact this
theorem tabV_at (j : Nat) (h : j < 16) : tabV[j]? = some (.int .u32 ((Crc.tab.getD j 0 : Nat) : Int)) := by
  match j, h with
  | 0, _ => rfl
  | 1, _ => rfl
  | 2, _ => rfl
  | 3, _ => rfl
  | 4, _ => rfl
  | 5, _ => rfl
  | 6, _ => rfl
  | 7, _ => rfl
  | 8, _ => rfl
  | 9, _ => rfl
  | 10, _ => rfl
  | 11, _ => rfl
  | 12, _ => rfl
  | 13, _ => rfl
  | 14, _ => rfl
  | 15, _ => rfl
  | n + 16, h => omega
def Tabled (w : World) (g : Nat) : Prop := ∀ j, j < 16 → w.cell? ⟨g, j, none⟩ = some (.int .u32 ((Crc.tab.getD j 0 : Nat) : Int))
theorem tabled_new (w : World) (t : TypeId) : Tabled (w.alloc (.cells tabV t)) w.heap.size := fun j h => by
  rw [World.cell?_alloc_new]
  exact tabV_at j h
theorem tabled_at {w : World} {g : Nat} (h : Tabled w g) (i : Int) (h0 : 0 ≤ i) (h1 : i < 16) : w.cell? ⟨g, i.toNat, none⟩ = some (.int .u32 (Crc.tabI i)) := h i.toNat (by omega)
theorem reg_snoc (r : Crc.W) (l : List Int) (k : Nat) (h : k < l.length) : Crc.reg r (l.take (k + 1)) = Crc.bst (Crc.reg r (l.take k)) (rd l k) := by
  rw [List.take_succ_eq_append_getElem h, Crc.reg_append]
  unfold rd
  rw [Int.toNat_natCast, List.getD_eq_getElem?_getD, List.getElem?_eq_getElem h]
  rfl
def sum_Of.f (l0 : List Int) : Option Int := if l0.all isB = true then some (Crc.crc l0) else none
set_option maxHeartbeats 1000000 in
theorem Of_any (A0 : Option Addr) (c0 : Nat) (l0 : List Int) (w : World) (hr0 : Kd.C (Kd.int .u8) w A0 l0.length l0) (hc0 : l0.length ≤ c0) (hB : l0.all isB = true) :
    Calls Try.prog 48 #[.slice A0 l0.length c0] w fun e w' => e = .returned (.int .u32 (Crc.crc l0)) ∧ Below w.heap.size w w' := by
  have hl : l0.length ≤ 9223372036854775807 := hr0.2.1
  have HR0 := Aside0.mk hr0
  have HBY := Aside0.mk hB
  clear hr0 hB
  go_enter Try.func48, Try.ntmps48
  go_wp2_with (go_at_call 55; refine (halves_any _).mono ?_; rintro e w1 ⟨rfl, hb1⟩; unfold tabV)
  generalize hW : w1.alloc _ = W
  have HT : Aside0 (Tabled W w1.heap.size) := ⟨hW ▸ tabled_new w1 _⟩
  have HW : Aside0 (Below w.heap.size w W) := ⟨hW ▸ hb1.alloc hb1.size _⟩
  clear hW hb1
  go_loop [4, 10] (fun n i => ∃ k : Nat, k ≤ l0.length ∧ i = .int .i64 k ∧ n = .int .u32 ((Crc.reg Crc.ones (l0.take k)).toNat : Int)) (fun _ i => l0.length - (intOf i).toNat)
  case atStart => exact ⟨0, Nat.zero_le _, rfl, rfl⟩
  case round =>
    obtain ⟨k, hk, rfl, rfl⟩ := hrel
    generalize hst : Crc.reg Crc.ones (l0.take k) = N
    have Hst := Aside0.mk hst
    clear hst
    have hN := N.isLt
    by_cases hlt : k < l0.length
    · obtain ⟨ad, e0, hx⟩ := Kd.at_int HR0.out (k : Int) (by omega) (by omega)
      subst e0
      obtain ⟨hb0, hb1⟩ := allB HBY.out k hlt
      have hx2 : W.cell? (ad.add k) = some (.int .u8 (rd l0 k)) := pw_cell_below HW.out (by simpa using hx)
      generalize hc : rd l0 k = c at *
      have Hc := Aside0.mk hc
      clear hc hx
      have Hi := Aside0.mk (Crc.idx_range N (c / 16) (by omega) (by omega))
      have hj0 := Hi.out.2.1
      have hj1 := Hi.out.2.2
      have hcell := tabled_at HT.out _ hj0 hj1
      have Hn1 := Aside0.mk (Crc.walk_nib N (c / 16) (by omega) (by omega))
      have hi0 : 0 ≤ bits BinOp.xor IntKind.u32 ((N.toNat : Int) * 16 % 4294967296) (Crc.tabI (bits BinOp.xor IntKind.u32 ((N.toNat : Int) / 268435456) (c / 16))) := by rw [Hn1.out]; omega
      have hi1 : bits BinOp.xor IntKind.u32 ((N.toNat : Int) * 16 % 4294967296) (Crc.tabI (bits BinOp.xor IntKind.u32 ((N.toNat : Int) / 268435456) (c / 16))) ≤ 4294967295 := by
        rw [Hn1.out]
        have := (Crc.steps 4 (N ^^^ (BitVec.ofInt 32 (c / 16) <<< 28))).isLt
        omega
      have Hi2 : Aside0 (0 ≤ bits BinOp.xor IntKind.u32 (bits BinOp.xor IntKind.u32 ((N.toNat : Int) * 16 % 4294967296) (Crc.tabI (bits BinOp.xor IntKind.u32 ((N.toNat : Int) / 268435456) (c / 16))) / 268435456) (c % 16) ∧
          bits BinOp.xor IntKind.u32 (bits BinOp.xor IntKind.u32 ((N.toNat : Int) * 16 % 4294967296) (Crc.tabI (bits BinOp.xor IntKind.u32 ((N.toNat : Int) / 268435456) (c / 16))) / 268435456) (c % 16) < 16) :=
        ⟨by rw [Hn1.out]; exact (Crc.idx_range _ _ (by omega) (by omega)).2⟩
      have hp0 := Hi2.out.1
      have hp1 := Hi2.out.2
      have hcell2 := tabled_at HT.out _ hp0 hp1
      have Hfin := Aside0.mk (Crc.walk_byte N c hb0 (by omega))
      go_wp2
      go_round
      case rel => exact ⟨k + 1, by omega, by go_num, by rw [Hfin.out, reg_snoc _ _ k hlt, Hst.out, Hc.out]⟩
      case measure => simp [intOf]; omega
    · have hfin : bits BinOp.xor IntKind.u32 IntKind.u32.max (N.toNat : Int) = Crc.crc l0 := by
        rw [Crc.not_xor, ← Hst.out, List.take_of_length_le (by omega)]; rfl
      have Hfin := Aside0.mk hfin
      clear hfin
      go_wp2
      all_goals
        go_ret
        exact ⟨by rw [← Hfin.out]; rfl, HW.out⟩
theorem sum_Of.calls (A0 : Option Addr) (c0 : Nat) (l0 : List Int) (r : Int) (w : World) (hr0 : Kd.C (Kd.int .u8) w A0 l0.length l0) (hc0 : l0.length ≤ c0) (h : sum_Of.f l0 = some r) :
    Calls Try.prog 48 #[.slice A0 l0.length c0] w fun e w' => e = .returned (.int .u32 r) ∧ Below w.heap.size w w' := by
  unfold sum_Of.f at h
  split at h
  · rename_i hB
    obtain rfl := Option.some.inj h
    exact Of_any A0 c0 l0 w hr0 hc0 hB
  · cases h
end Go.Proofs.Ytgbcfkcnoncgdaa.Hand
namespace Go.Proofs.Ytgbcfkcnoncgdaa.Hand
open Go.RowKit Go.Proofs.YtgbcfkcnoncgdaaW.PrintWords Go.Proofs.YtgbcfkcnoncgdaaW.PrintLast Go.Proofs.YtgbcfkcnoncgdaaW.PrintMore
set_option linter.unusedVariables false
set_option linter.unusedSimpArgs false
theorem info_u8 : (Try.prog.info? 5).map (fun i => (i.zero, i.size, i.bytes)) = some (some (.int .u8 0), 1, 1) := by kernel_rfl
theorem bytesLess_flip : ∀ a b : List UInt8, (Op.bytesLess a b || a == b) = !(Op.bytesLess b a)
  | [], [] => rfl
  | [], _ :: _ => rfl
  | _ :: _, [] => rfl
  | x :: a, y :: b => by
    have ih := bytesLess_flip a b
    simp only [Op.bytesLess, List.cons_beq_cons]
    by_cases h : x = y
    · subst h
      have hlt : (decide (x < x)) = false := decide_eq_false (UInt8.lt_irrefl x)
      simp only [hlt, Bool.false_or, beq_self_eq_true, Bool.true_and]
      exact ih
    · have h1 : (x == y) = false := beq_eq_false_iff_ne.2 h
      have h2 : (y == x) = false := beq_eq_false_iff_ne.2 (Ne.symm h)
      simp only [h1, h2, Bool.false_and, Bool.or_false]
      rw [Bool.eq_iff_iff]
      simp only [decide_eq_true_eq, Bool.not_eq_true', decide_eq_false_iff_not, UInt8.lt_iff_toNat_lt]
      have : x.toNat ≠ y.toNat := fun e => h (UInt8.toNat_inj.1 e)
      omega
@[go_sem] theorem string_leq (t : TypeId) (a b : ByteArray) : binOp .leq t (.string a) (.string b) = pure (.bool (!(Op.bytesLess b.toList a.toList))) := by
  rw [← bytesLess_flip]
  simp [binOp, Op.stringOp]
@[go_sem] theorem string_gtr (t : TypeId) (a b : ByteArray) : binOp .gtr t (.string a) (.string b) = pure (.bool (Op.bytesLess b.toList a.toList)) := by
  have h := bytesLess_flip a.toList b.toList
  have h2 : Op.bytesLess b.toList a.toList = !(Op.bytesLess a.toList b.toList || a.toList == b.toList) := by rw [h, Bool.not_not]
  rw [h2]
  simp [binOp, Op.stringOp]
@[go_sem] theorem string_geq (t : TypeId) (a b : ByteArray) : binOp .geq t (.string a) (.string b) = pure (.bool (!(Op.bytesLess a.toList b.toList))) := by
  simp [binOp, Op.stringOp]
section
variable {P : Program} {ops : Array Oper} {rest : List Oper} {o : Oper} {a : Act} {Q : Exit → Act → World → Prop} {α : Type}
theorem R_make0 (d : Kd α) {w0 W : World} (base e : Nat) (hgd : o.guard = none) {N : Tmp} (_hd : o.dst = some N) (t : TypeId) (x y : Operand) (ho : o.op = .makeSlice t x y) (n : Int) (hx : a.eval x = .int .i64 0) (hy : a.eval y = .int .i64 n)
    (ht : P.underlying t = some (.slice e)) (z : Value) (bytes : Nat) (hinfo : (P.info? e).map (fun i => (i.zero, i.size, i.bytes)) = some (some z, d.sz, bytes)) (hb0 : 0 < bytes)
    {ok : Nat → Prop} (hfresh : ok W.heap.size) (h0 : 0 ≤ n) (hl : n.toNat * bytes ≤ 281474976710656) (HB : Below base w0 W) (hbase : base ≤ W.heap.size)
    (h : ∀ v1 w1, d.R e w1 base ok v1 [] → Below base w0 w1 → W.grownBy w1 none → (∃ b, v1.ownBlock = some b ∧ W.heap.size ≤ b) → wpList P ops Q rest (a.put o.dst v1) w1) : wpList P ops Q (o :: rest) a W := by
  obtain ⟨m, rfl⟩ := Int.eq_ofNat_of_zero_le h0
  simp only [Int.toNat_natCast] at hl
  obtain ⟨i0, hi, hzz⟩ := Option.map_eq_some_iff.1 hinfo
  simp only [Prod.mk.injEq] at hzz
  obtain ⟨hz0, hz1, hz2⟩ := hzz
  have hm : m ≤ 281474976710656 := Nat.le_trans (Nat.le_mul_of_pos_right _ hb0) hl
  have hr := run_make (P := P) W t e i0 z ht hi hz0 .i64 .i64 0 (m : Int) (Int.le_refl _) (by omega)
    (by
      have h3 : ((i0.bytes * m : Nat) : Int) ≤ 281474976710656 := by rw [hz2, Nat.mul_comm]; omega
      rwa [Int.natCast_mul] at h3) (by omega)
  simp only [Int.toNat_natCast, Int.toNat_zero] at hr
  have hown : (W.alloc (.cells (madeCells z.cells (m * i0.size)) e)).ownsRow base e d.sz (.slice (some ⟨W.heap.size, 0, none⟩) 0 m) 0 [] :=
    World.ownsRow_made W _ m hbase (by unfold maxLen; omega) (by rw [size_madeCells, hz1])
  refine Kd.event_run hgd (by simp [execOp, ho, hx, hy, hr]) (h _ _ ⟨fun k hk => ?_, [], hown, Reps.none _ _⟩ (HB.alloc hbase _) (World.grownBy_alloc W _ none) ⟨W.heap.size, by simp [Value.ownBlock], Nat.le_refl _⟩)
  have : W.heap.size = k := by simpa [Value.ownBlock] using hk
  subst this
  exact hfresh
end
end Go.Proofs.Ytgbcfkcnoncgdaa.Hand
namespace Go.Proofs.Ytgbcfkcnoncgdaa.Hand
open Go.RowKit Go.Proofs.YtgbcfkcnoncgdaaW.PrintWords Go.Proofs.YtgbcfkcnoncgdaaW.PrintLast Go.Proofs.YtgbcfkcnoncgdaaW.PrintMore
set_option linter.unusedVariables false
set_option linter.unusedSimpArgs false
def slices_Clone_byte_byte.f (l0 : List Int) : Option (List Int) := if l0.length < 140737488355328 then some l0 else none
set_option maxHeartbeats 4000000 in
set_option maxRecDepth 100000 in
theorem slices_Clone_byte_byte.calls (A0 : Option Addr) (c0 : Nat) (l0 : List Int) (r : List Int) (w : World) (hr0 : Kd.C (Kd.int .u8) w A0 l0.length l0) (hc0 : l0.length ≤ c0) (h : slices_Clone_byte_byte.f l0 = some r) :
    Calls Try.prog 43 #[.slice A0 l0.length c0] w fun e w' => ∃ v0_ : Value, e = .returned (v0_) ∧ Kd.R (Kd.int .u8) 5 w' w.heap.size (fun _ => True) v0_ r ∧ Below w.heap.size w w' := by
  have HR0 := Aside0.mk hr0
  have HC0 := Aside0.mk hc0
  clear hr0 hc0
  have HB := Aside0.mk (Below.refl w.heap.size w)
  unfold slices_Clone_byte_byte.f at h
  by_cases c2 : l0.length < 140737488355328
  · rw [if_pos c2] at h
    obtain rfl := Option.some.inj h
    have LMc2 := Aside0.mk c2
    clear c2 h
    have hnil := fun (W : World) (n c : Nat) => Lib.run_eql_slice_nil (P := Try.prog) W 30 5 A0 n c 0 0 Try.underlying30
    rcases A0 with _ | ad
    · have hz : l0 = [] := by
        rcases l0 with _ | ⟨x, l⟩
        · rfl
        · obtain ⟨ad, e, _⟩ := HR0.out.2.2 (by simp)
          cases e
      subst hz
      go_enter Try.func43, Try.ntmps43
      go_wp2
      go_ret
      exact ⟨_, rfl, Kd.R_nil _ _ _ _ _, HB.out⟩
    · go_enter Try.func43, Try.ntmps43
      go_wp2_with (first | ((with_reducible refine gate_dst (N := 5) rfl ?_); refine Kd.R_lit (Kd.int .u8) _ 5 ?hg (N := 5) ?hd (xs := ([] : List Int)) (inner := []) (ok := fun _ => True) (okp := fun _ => True) ?hr ?hp (fun _ hk => hk) trivial (Below.refl _ _) (Nat.le_refl _) (by simp) ?_; (case hd => rfl); (case hg => rfl); (case hr => first | (go_simp; done) | (go_simp; rfl)); (case hp => exact (Reps.none _ _)); intro v119 w3 ho4 hb hg_ hnew_; clear hg_ hnew_; have n0_ := Aside0.mk (Kd.R_lower ho4 (below_size (by repeat (first | (with_reducible first | exact HB.out | apply below_alloc | apply pw_below_drewN | apply below_drew1) | exact HB.out)))); have n1_ := Aside0.mk (below_step (by repeat (first | (with_reducible first | exact HB.out | apply below_alloc | apply pw_below_drewN | apply below_drew1) | exact HB.out)) hb); clear HB; have HO120 := n0_; have HB := n1_; clear n0_ n1_; clear hb ho4) | ((with_reducible refine gate_builtin (b := .append) (xs := #[.tmp 5, .tmp 6]) rfl ?_); at_builtin; refine Kd.R_append_rows (Kd.int .u8) (w0 := w) w.heap.size rfl (.tmp 5) (.tmp 6) 30 5 (.int .u8 0) 1 rfl Try.underlying30 info_u8 rfl (by decide) (by omega) v119 [] l0 _ _ _ (fun _ => True) (fun _ => False) rfl rfl ?aO ?aR (fun _ _ h => h) (fun _ h => h.elim) ?aF ?aB ?aS ?aL ?_; (case aR => repeat (first | exact (Kd.C_below HR0.out HB.out) | (with_reducible refine Kd.C_alloc ?_ _) | (with_reducible refine Kd.C_drewN ?_ _) | (with_reducible refine Kd.C_drew ?_))); (case aB => exact (by repeat (first | (with_reducible first | exact HB.out | apply below_alloc | apply pw_below_drewN | apply below_drew1) | exact HB.out))); (case aF => exact (fun _ _ => trivial)); (case aO => exact (by (with_reducible repeat (first | apply Kd.R_alloc | apply Kd.R_drewN | apply Kd.R_drew)); exact HO120.out)); (case aS => exact (below_size (by repeat (first | (with_reducible first | exact HB.out | apply below_alloc | apply pw_below_drewN | apply below_drew1) | exact HB.out)))); (case aL => have := LMc2.out; simp; omega); intro v122 w5 ho hb hg hat; rw [List.nil_append] at ho; have n0_ := Aside0.mk (hb); have n1_ := Aside0.mk (ho); clear HB; clear HO120; have HB := n0_; have HO123 := n1_; clear n0_ n1_; clear ho hb hg hat))
      go_ret
      exact ⟨_, rfl, by (with_reducible repeat (first | apply Kd.R_alloc | apply Kd.R_drewN | apply Kd.R_drew)); exact HO123.out, by repeat (first | (with_reducible first | exact HB.out | apply below_alloc | apply pw_below_drewN | apply below_drew1) | exact HB.out)⟩
  · rw [if_neg c2] at h
    exact absurd h (by simp)
end Go.Proofs.Ytgbcfkcnoncgdaa.Hand
namespace Go.Proofs.Ytgbcfkcnoncgdaa.Hand
open Go.RowKit Go.Proofs.YtgbcfkcnoncgdaaW.PrintWords Go.Proofs.YtgbcfkcnoncgdaaW.PrintLast Go.Proofs.YtgbcfkcnoncgdaaW.PrintMore
set_option linter.unusedVariables false
set_option linter.unusedSimpArgs false
def IsRd (w : World) (g : Nat) (A : Option Addr) (n c : Nat) (at_ e : Int) : Prop :=
  w.heap[g]? = some (.cells #[.slice A n c, .int .i64 at_, .int .i64 e] 83 (0, 0))
theorem IsRd.c0 {w : World} {g : Nat} {A : Option Addr} {n c : Nat} {at_ e : Int} (h : IsRd w g A n c at_ e) : w.cell? ⟨g, 0, none⟩ = some (.slice A n c) := by simp [World.cell?, h, IsRd] at *; simp [h]
theorem IsRd.c1 {w : World} {g : Nat} {A : Option Addr} {n c : Nat} {at_ e : Int} (h : IsRd w g A n c at_ e) : w.cell? ⟨g, 1, none⟩ = some (.int .i64 at_) := by simp [World.cell?, h, IsRd] at *; simp [h]
theorem IsRd.c2 {w : World} {g : Nat} {A : Option Addr} {n c : Nat} {at_ e : Int} (h : IsRd w g A n c at_ e) : w.cell? ⟨g, 2, none⟩ = some (.int .i64 e) := by simp [World.cell?, h, IsRd] at *; simp [h]
theorem Err_calls {w : World} {g : Nat} {A : Option Addr} {n c : Nat} {at_ e : Int} (h : IsRd w g A n c at_ e) :
    Calls Try.prog 26 #[.pointer (some ⟨g, 0, none⟩)] w fun x w' => x = .returned (.int .i64 e) ∧ w' = w := by
  have h2 := h.c2
  clear h
  go_enter Try.func26, Try.ntmps26
  go_wp2
  go_ret
  exact ⟨rfl, rfl⟩
theorem IsRd.fr {w : World} {g : Nat} {A : Option Addr} {n c : Nat} {at_ e : Int} (h : IsRd w g A n c at_ e) (j : Nat) : w.frozen? ⟨g, j, none⟩ = false := blk_frozen h j
theorem fails_first {w : World} {g : Nat} {A : Option Addr} {n c : Nat} {at_ : Int} (x : Int) (h : IsRd w g A n c at_ 0) :
    Calls Try.prog 45 #[.pointer (some ⟨g, 0, none⟩), .int .i64 x] w fun y w' => y = .returned (.tuple #[]) ∧ w' = w.setCell ⟨g, 2, none⟩ (.int .i64 x) := by
  have h2 := h.c2
  have h3 := h.fr 2
  go_enter Try.func45, Try.ntmps45
  go_wp2_with (go_at_call 26; refine (Err_calls h).mono ?_; rintro e w1 ⟨rfl, rfl⟩)
  go_end0
  exact ⟨rfl, rfl⟩
structure Only (w w' : World) (g : Nat) : Prop where
  os : w'.os = w.os
  tape : w'.tape = w.tape
  output : w'.output = w.output
  size : w.heap.size ≤ w'.heap.size
  block : ∀ k, k < w.heap.size → k ≠ g → w'.heap[k]? = w.heap[k]?
theorem Only.refl (w : World) (g : Nat) : Only w w g := ⟨rfl, rfl, rfl, Nat.le_refl _, fun _ _ _ => rfl⟩
theorem Only.trans {a b c : World} {g : Nat} (h : Only a b g) (k : Only b c g) : Only a c g :=
  ⟨k.os.trans h.os, k.tape.trans h.tape, k.output.trans h.output, Nat.le_trans h.size k.size, fun i hi hg => (k.block i (Nat.lt_of_lt_of_le hi h.size) hg).trans (h.block i hi hg)⟩
theorem Only.of_below {a b : World} {g : Nat} (h : Below a.heap.size a b) : Only a b g := ⟨h.os, h.tape, h.output, h.size, fun i hi _ => h.block i hi⟩
theorem Only.set {a b : World} {g : Nat} (h : Only a b g) (j : Nat) (u : Value) : Only a (b.setCell ⟨g, j, none⟩ u) g :=
  ⟨h.os, h.tape, h.output, by simpa [World.setCell] using h.size, fun i hi hg => (Below.heap_setCell b ⟨g, j, none⟩ u i hg).trans (h.block i hi hg)⟩
theorem Only.drew (a : World) (q g : Nat) : Only a (a.drewN q) g := Only.of_below (pw_below_drewN (Below.refl _ _) _)
theorem Only.below {a b c : World} {g B : Nat} (h : Below B a b) (k : Only b c g) (hg : B ≤ g) (hB : B ≤ b.heap.size) : Below B a c :=
  ⟨k.os.trans h.os, k.tape.trans h.tape, k.output.trans h.output, Nat.le_trans h.size k.size, fun i hi => (k.block i (by omega) (by omega)).trans (h.block i hi)⟩
theorem bytes_err {w : World} {g : Nat} {A : Option Addr} {n c : Nat} {at_ e : Int} (h : IsRd w g A n c at_ e) (he : e ≠ 0) (many : Int) :
    Calls Try.prog 46 #[.pointer (some ⟨g, 0, none⟩), .int .i64 many] w fun x w' => x = .returned (.slice none 0 0) ∧ w' = w := by
  have he1 : (e == 0) = false := beq_eq_false_iff_ne.mpr he
  have he2 : (e != 0) = true := bne_iff_ne.mpr he
  go_enter Try.func46, Try.ntmps46
  go_wp2_with (go_at_call 26; refine (Err_calls h).mono ?_; rintro e w1 ⟨rfl, rfl⟩)
  go_ret
  exact ⟨rfl, rfl⟩
theorem bytes_short {w : World} {g : Nat} {A : Option Addr} {n c : Nat} {at_ : Int} (h : IsRd w g A n c at_ 0) (many d : Int) (hd : wrap64 ((n : Int) - at_) = d) (hm : d < many) :
    Calls Try.prog 46 #[.pointer (some ⟨g, 0, none⟩), .int .i64 many] w fun x w' => x = .returned (.slice none 0 0) ∧ Only w w' g ∧ IsRd w' g A n c at_ 2 := by
  have h0 := h.c0
  have h1 := h.c1
  have hm1 := eq_true hm
  have hm2 := decide_eq_true hm
  have hd2 : IntKind.i64.wrap ((n : Int) - at_) = d := (i64_w _).trans hd
  go_enter Try.func46, Try.ntmps46
  go_wp2_with (go_at_call 26; refine (Err_calls h).mono ?_; rintro e w1 ⟨rfl, rfl⟩)
  go_quiet ((fail))
  go_wp2_with (go_at_call 45; refine (fails_first (A := A) (n := n) (c := c) (at_ := at_) 2 ?hrd).mono ?_; (case hrd => exact h); rintro e w5 ⟨rfl, rfl⟩)
  go_ret
  refine ⟨rfl, ?_, ?_⟩
  · exact (Only.drew _ _ _).set 2 _
  · exact blk_put (show (World.drewN _ _).heap[g]? = _ from h) 2 _ rfl
theorem bytes_ok {w : World} {g : Nat} {A : Option Addr} {n c p m : Nat} (h : IsRd w g A n c (p : Int) 0) (hc : n ≤ c) (hn : n ≤ 4611686018427387904) (hm : p + m ≤ n) :
    Calls Try.prog 46 #[.pointer (some ⟨g, 0, none⟩), .int .i64 (m : Int)] w fun x w' => x = .returned (.slice (if c = p then A else A.map (·.add (p * 1))) m (c - p)) ∧ Only w w' g ∧ IsRd w' g A n c ((p + m : Nat) : Int) 0 := by
  have h0 := h.c0
  have h1 := h.c1
  have h3 := h.fr 1
  have hs1 : IntKind.i64.wrap ((n : Int) - (p : Int)) = (n : Int) - (p : Int) := IntWalk.i64_in _ (by omega)
  have hs2 : IntKind.i64.wrap ((p : Int) + (m : Int)) = (p : Int) + (m : Int) := IntWalk.i64_in _ (by omega)
  have hlt : decide ((n : Int) - (p : Int) < (m : Int)) = false := decide_eq_false (by omega)
  have hlt2 : ((n : Int) - (p : Int) < (m : Int)) = False := eq_false (by omega)
  have hcut : ∀ W : World, (Instr.slice 30 (.slice A n c) (some (.int .i64 (p : Int))) (some (.int .i64 ((p : Int) + (m : Int)))) none).run Try.prog W = .ok (.slice (if c = p then A else A.map (·.add (p * 1))) m (c - p)) W := fun W => by
    have := cut_mid (P := Try.prog) 30 5 .i64 .i64 Try.underlying30 rfl 1 rfl A n c (p : Int) ((p : Int) + (m : Int)) (by omega) (by omega) (by omega) hc W
    rw [this]
    have e1 : ((p : Int) + (m : Int)).toNat - (p : Int).toNat = m := by omega
    rw [e1, Int.toNat_natCast]
  have HX : Hid (((p + m : Nat) : Int) = (p : Int) + (m : Int)) := Lib.hid (by omega)
  have hm' : (p : Int) + (m : Int) ≤ 4611686018427387904 := by omega
  have hp0 : (0 : Int) ≤ (p : Int) + (m : Int) := by omega
  clear hm hn hc
  generalize (if c = p then A else A.map (·.add (p * 1))) = A' at hcut ⊢
  go_enter Try.func46, Try.ntmps46
  go_wp2_with (go_at_call 26; refine (Err_calls h).mono ?_; rintro e w1 ⟨rfl, rfl⟩)
  go_quiet ((fail))
  go_wp2
  go_quiet ((fail))
  go_wp2
  go_ret
  rw [HX.out]
  refine ⟨rfl, ?_, ?_⟩
  · exact (Only.drew _ _ _).set 1 _
  · exact blk_put (show (World.drewN _ _).heap[g]? = _ from h) 1 _ rfl
structure RS where
  p : Nat
  e : Int
def rBytes (l : List Int) (s : RS) (m : Nat) : List Int × RS :=
  if s.e ≠ 0 then ([], s) else if l.length - s.p < m then ([], ⟨s.p, 2⟩) else ((l.take (s.p + m)).drop s.p, ⟨s.p + m, 0⟩)
def numOf (x : List Int) : Int := x.foldl (fun n c => n * 256 + c) 0
def rNum (l : List Int) (s : RS) (m : Nat) : Int × RS := (numOf (rBytes l s m).1, (rBytes l s m).2)
def isBy (l : List Int) : Prop := ∀ x ∈ l, 0 ≤ x ∧ x ≤ 255
structure Rd (w : World) (bs g : Nat) (l : List Int) (s : RS) : Prop where mk ::
  blk : ∃ A c, IsRd w g A l.length c (s.p : Int) s.e ∧ l.length ≤ c ∧ (Kd.int .u8).C w A l.length l ∧ ∀ ad, A = some ad → 0 < l.length → bs ≤ ad.block ∧ ad.block < g
  at_ : s.p ≤ l.length
  small : l.length ≤ 140737488355328
  isb : isBy l
  base : bs ≤ g
theorem Rd.lt {w : World} {bs g : Nat} {l : List Int} {s : RS} (h : Rd w bs g l s) : g < w.heap.size := by
  obtain ⟨A, c, h1, _⟩ := h.blk
  exact blk_lt h1
def RowIn (l : List Int) (bs g : Nat) (A : Option Addr) : Prop := ∀ ad, A = some ad → 0 < l.length → bs ≤ ad.block ∧ ad.block < g
theorem RowIn.ne {l : List Int} {bs g : Nat} {A : Option Addr} (h : RowIn l bs g A) : ∀ ad, A = some ad → 0 < l.length → ad.block ≠ g := fun ad e hp => Nat.ne_of_lt (h ad e hp).2
theorem Only.keep {w w' : World} {g : Nat} (h : Only w w' g) : KeepBut w w' g none := ⟨h.size, fun i hi hg _ => h.block i hi hg⟩
theorem Rd.other {w w' : World} {bs g k : Nat} {l : List Int} {s : RS} (h : Rd w bs g l s) (hk : Only w w' k) (hg : k < bs ∨ g < k) : Rd w' bs g l s := by
  obtain ⟨⟨A, c, h1, h2, h3, h4⟩, r1, r2, r3, r4⟩ := h
  exact ⟨⟨A, c, (hk.block g (blk_lt h1) (by omega)).trans h1, h2, Kd.C_keep (0 : Int) h3 hk.keep (fun ad e hp => by have := h4 ad e hp; omega), h4⟩, r1, r2, r3, r4⟩
theorem Rd.below {w w' : World} {bs g : Nat} {l : List Int} {s : RS} (h : Rd w bs g l s) (hb : Below w.heap.size w w') : Rd w' bs g l s := by
  obtain ⟨⟨A, c, h1, h2, h3, h4⟩, r1, r2, r3, r4⟩ := h
  exact ⟨⟨A, c, (hb.block g (blk_lt h1)).trans h1, h2, Kd.C_below h3 hb, h4⟩, r1, r2, r3, r4⟩
def BytesOut (w : World) (bs g : Nat) (l : List Int) (r : List Int × RS) (x : Ending) (w' : World) : Prop :=
  ∃ A c, x = .returned (.slice A r.1.length c) ∧ (Kd.int .u8).C w' A r.1.length r.1 ∧ r.1.length ≤ c ∧ Only w w' g ∧ Rd w' bs g l r.2
theorem bytes_any {w : World} {bs g : Nat} {l : List Int} {s : RS} (h : Rd w bs g l s) (m : Nat) (hm : m ≤ 4611686018427387904) :
    Calls Try.prog 46 #[.pointer (some ⟨g, 0, none⟩), .int .i64 (m : Int)] w (BytesOut w bs g l (rBytes l s m)) := by
  obtain ⟨⟨A, c, h1, h2, h3, h4⟩, hat, hsm, hib, hbs⟩ := h
  unfold rBytes
  by_cases he : s.e = 0
  · rw [if_neg (by simp [he])]
    rw [he] at h1
    by_cases hlt : l.length - s.p < m
    · rw [if_pos hlt]
      refine (bytes_short (d := (l.length : Int) - (s.p : Int)) h1 (m : Int) ?_ (by omega)).mono ?_
      · unfold wrap64; omega
      · rintro x w' ⟨rfl, ho, hr⟩
        exact ⟨none, 0, rfl, Kd.C_nil _ _, Nat.le_refl _, ho, ⟨⟨A, c, hr, h2, Kd.C_keep (0 : Int) h3 ho.keep (RowIn.ne h4), h4⟩, hat, hsm, hib, hbs⟩⟩
    · rw [if_neg hlt]
      refine (bytes_ok h1 h2 (by omega) (by omega)).mono ?_
      rintro x w' ⟨rfl, ho, hr⟩
      have hC := Kd.C_keep (0 : Int) h3 ho.keep (RowIn.ne h4)
      have hM := Kd.C_mid (lo := s.p) (hi := s.p + m) hC (by omega) (by omega) h2
      have hl : ((l.take (s.p + m)).drop s.p).length = m := by rw [List.length_drop, List.length_take]; omega
      rw [hl] at hM
      refine ⟨if c = s.p then A else A.map (·.add (s.p * 1)), c - s.p, ?_, ?_, ?_, ho, ⟨⟨A, c, hr, h2, hC, h4⟩, ?_, hsm, hib, hbs⟩⟩
      · show Ending.returned _ = Ending.returned _
        simp only
        rw [hl]
      · rw [hl]; exact hM
      · rw [hl]; omega
      · show s.p + m ≤ l.length; omega
  · rw [if_pos he]
    refine (bytes_err h1 he _).mono ?_
    rintro x w' ⟨rfl, rfl⟩
    exact ⟨none, 0, rfl, Kd.C_nil _ _, Nat.le_refl _, Only.refl _ _, ⟨⟨A, c, h1, h2, h3, h4⟩, hat, hsm, hib, hbs⟩⟩
end Go.Proofs.Ytgbcfkcnoncgdaa.Hand
namespace Go.Proofs.Ytgbcfkcnoncgdaa.Hand
open Go.RowKit Go.Proofs.YtgbcfkcnoncgdaaW.PrintWords Go.Proofs.YtgbcfkcnoncgdaaW.PrintLast Go.Proofs.YtgbcfkcnoncgdaaW.PrintMore
set_option linter.unusedVariables false
set_option linter.unusedSimpArgs false
theorem numOf_snoc (x : List Int) (c : Int) : numOf (x ++ [c]) = numOf x * 256 + c := by simp [numOf]
theorem numOf_range : ∀ (n : Nat) (x : List Int), isBy x → x.length = n → 0 ≤ numOf x ∧ numOf x < 256 ^ n := by
  intro n
  induction n with
  | zero => intro x _ hl; obtain rfl := List.eq_nil_of_length_eq_zero hl; simp [numOf]
  | succ n ih =>
    intro x hb hl
    have hne : x ≠ [] := by rintro rfl; simp at hl
    have e := List.dropLast_concat_getLast hne
    have h1 := ih x.dropLast (fun y hy => hb y (List.dropLast_subset _ hy)) (by simp [hl])
    have h2 := hb _ (List.getLast_mem hne)
    rw [← e, numOf_snoc, Int.pow_succ]
    generalize (256 : Int) ^ n = q at *
    omega
theorem numOf_small (x : List Int) (hb : isBy x) (hl : x.length ≤ 4) : 0 ≤ numOf x ∧ numOf x ≤ 4294967295 := by
  have h := numOf_range x.length x hb rfl
  match hx : x.length, hl with
  | 0, _ => rw [hx] at h; omega
  | 1, _ => rw [hx] at h; omega
  | 2, _ => rw [hx] at h; omega
  | 3, _ => rw [hx] at h; omega
  | 4, _ => rw [hx] at h; omega
theorem rBytes_by {l : List Int} (hb : isBy l) (s : RS) (m : Nat) : isBy (rBytes l s m).1 ∧ (rBytes l s m).1.length ≤ m := by
  unfold rBytes
  split
  · exact ⟨fun x hx => by simp at hx, by simp⟩
  · split
    · exact ⟨fun x hx => by simp at hx, by simp⟩
    · refine ⟨fun x hx => hb x (List.mem_of_mem_take (List.mem_of_mem_drop hx)), ?_⟩
      simp only [List.length_drop, List.length_take]
      omega
theorem take_snocI (x : List Int) (k : Nat) (h : k < x.length) : x.take (k + 1) = x.take k ++ [x.getD k 0] := by
  rw [List.take_succ_eq_append_getElem h]; simp [List.getD_eq_getElem?_getD, List.getElem?_eq_getElem h]
theorem or_low (a b : Int) (h0 : 0 ≤ a) (h1 : a < 1099511627776) (h2 : 0 ≤ b) (h3 : b ≤ 255) : bits .or .i64 (wrap64 (a * 256)) (wrap64 b) = a * 256 + b := by
  obtain ⟨a, rfl⟩ := Int.eq_ofNat_of_zero_le h0
  obtain ⟨b, rfl⟩ := Int.eq_ofNat_of_zero_le h2
  have e1 : wrap64 ((a : Int) * 256) = ((a * 256 : Nat) : Int) := by unfold wrap64; omega
  have e2 : wrap64 (b : Int) = (b : Int) := by unfold wrap64; omega
  rw [e1, e2]
  show IntKind.i64.wrap ((BitVec.ofInt 64 ((a * 256 : Nat) : Int) ||| BitVec.ofInt 64 (b : Int)).toNat : Int) = _
  rw [BitVec.toNat_or, BitVec.ofInt_natCast, BitVec.ofInt_natCast, BitVec.toNat_ofNat, BitVec.toNat_ofNat, Nat.mod_eq_of_lt (by omega), Nat.mod_eq_of_lt (by omega), nat_join8 _ _ (by omega) (by omega), i64_w]
  unfold wrap64; omega
theorem Err_rd {w : World} {bs g : Nat} {l : List Int} {s : RS} (h : Rd w bs g l s) :
    Calls Try.prog 26 #[.pointer (some ⟨g, 0, none⟩)] w fun x w' => x = .returned (.int .i64 s.e) ∧ w' = w := by
  obtain ⟨A, c, h1, _⟩ := h.blk
  exact Err_calls h1
theorem fails_rd {w : World} {bs g : Nat} {l : List Int} {p : Nat} (x : Int) (h : Rd w bs g l ⟨p, 0⟩) :
    Calls Try.prog 45 #[.pointer (some ⟨g, 0, none⟩), .int .i64 x] w fun y w' => y = .returned (.tuple #[]) ∧ Only w w' g ∧ Rd w' bs g l ⟨p, x⟩ := by
  obtain ⟨⟨A, c, h1, h2, h3, h4⟩, r1, r2, r3, r4⟩ := h
  refine (fails_first x h1).mono ?_
  rintro y w' ⟨rfl, rfl⟩
  have ho : Only w (w.setCell ⟨g, 2, none⟩ (.int .i64 x)) g := (Only.refl _ _).set 2 _
  exact ⟨rfl, ho, ⟨⟨A, c, blk_put (show w.heap[g]? = _ from h1) 2 _ rfl, h2, Kd.C_keep (0 : Int) h3 ho.keep (RowIn.ne h4), h4⟩, r1, r2, r3, r4⟩⟩
def NumOut (w : World) (bs g : Nat) (l : List Int) (r : Int × RS) (x : Ending) (w' : World) : Prop := x = .returned (.int .i64 r.1) ∧ Only w w' g ∧ Rd w' bs g l r.2
theorem number_any {w : World} {bs g : Nat} {l : List Int} {s : RS} (h : Rd w bs g l s) (m : Nat) (hm : m ≤ 4) :
    Calls Try.prog 44 #[.pointer (some ⟨g, 0, none⟩), .int .i64 (m : Int)] w (NumOut w bs g l (rNum l s m)) := by
  have hB := rBytes_by h.isb s m
  have hc := bytes_any h m (by omega)
  unfold rNum
  generalize rBytes l s m = r at hB hc ⊢
  obtain ⟨x, s'⟩ := r
  obtain ⟨hb, hl⟩ := hB
  simp only at hb hl hc ⊢
  have HL : Aside0 (x.length ≤ 4) := ⟨by omega⟩
  have HB : Aside0 (isBy x) := ⟨hb⟩
  have HC := Aside0.mk hc
  clear hb hl hc h
  go_enter Try.func44, Try.ntmps44
  go_wp2_with (go_at_call 46; refine HC.out.mono ?_; rintro e w1 ⟨A, c, rfl, hC, hle, ho, hr⟩; have HO := Aside0.mk ho; have HR := Aside0.mk hr; have HCC := Aside0.mk hC; clear ho hr hC hle)
  go_loop [5, 7, 12] (fun n _ i => ∃ k : Nat, k ≤ x.length ∧ i = .int .i64 k ∧ n = .int .i64 (numOf (x.take k))) (fun _ _ i => x.length - (intOf i).toNat)
  case atStart => exact ⟨0, Nat.zero_le _, rfl, rfl⟩
  case round =>
    obtain ⟨k, hk, rfl, rfl⟩ := hrel
    by_cases hlt : k < x.length
    · obtain ⟨ad, rfl, hcell⟩ := (Kd.reads_of_C (enc := Value.int .u8) (d := (0 : Int)) (h1 := fun _ => rfl) HCC.out).2.2 (by omega)
      have hk' := hcell k hlt
      have hx : 0 ≤ x.getD k 0 ∧ x.getD k 0 ≤ 255 := HB.out _ (by rw [List.getD_eq_getElem?_getD, List.getElem?_eq_getElem hlt]; exact List.getElem_mem hlt)
      clear hcell
      go_wp2
      have h1 := numOf_small (x.take k) (fun y hy => HB.out y (List.mem_of_mem_take hy)) (by rw [List.length_take]; have := HL.out; omega)
      have h2 := take_snocI x k hlt
      have e : x[k] = x.getD k 0 := by simp [List.getD_eq_getElem?_getD, List.getElem?_eq_getElem hlt]
      have hl4 := HL.out
      refine ⟨⟨k + 1, by omega, ?_, ?_⟩, ?_⟩
      · rw [show wrap64 ((k : Int) + 1) = ((k + 1 : Nat) : Int) by unfold wrap64; omega]
      · rw [h2, numOf_snoc, e, or_low _ _ (by omega) (by omega) (by omega) (by omega)]
      · rw [show wrap64 ((k : Int) + 1) = ((k + 1 : Nat) : Int) by unfold wrap64; omega]; simp [intOf]; omega
    · have e : x.take k = x := List.take_of_length_le (by omega)
      go_wp2
      go_ret
      exact ⟨rfl, HO.out, HR.out⟩
theorem Take8_any {w : World} {bs g : Nat} {l : List Int} {s : RS} (h : Rd w bs g l s) :
    Calls Try.prog 22 #[.pointer (some ⟨g, 0, none⟩)] w (NumOut w bs g l (rNum l s 1)) := by
  have HC := Aside0.mk (number_any h 1 (by omega))
  generalize rNum l s 1 = r at HC ⊢
  clear h
  go_enter Try.func22, Try.ntmps22
  go_wp2_with (go_at_call 44; refine HC.out.mono ?_; rintro e w1 ⟨rfl, ho, hr⟩; have HO := Aside0.mk ho; have HR := Aside0.mk hr; clear ho hr)
  go_ret
  exact ⟨rfl, HO.out, HR.out⟩
theorem Take16_any {w : World} {bs g : Nat} {l : List Int} {s : RS} (h : Rd w bs g l s) :
    Calls Try.prog 25 #[.pointer (some ⟨g, 0, none⟩)] w (NumOut w bs g l (rNum l s 2)) := by
  have HC := Aside0.mk (number_any h 2 (by omega))
  generalize rNum l s 2 = r at HC ⊢
  clear h
  go_enter Try.func25, Try.ntmps25
  go_wp2_with (go_at_call 44; refine HC.out.mono ?_; rintro e w1 ⟨rfl, ho, hr⟩; have HO := Aside0.mk ho; have HR := Aside0.mk hr; clear ho hr)
  go_ret
  exact ⟨rfl, HO.out, HR.out⟩
def rText (l : List Int) (s : RS) (most : Int) : List Int × RS :=
  rBytes l (if (rNum l s 2).2.e = 0 ∧ most < (rNum l s 2).1 then ⟨(rNum l s 2).2.p, 4⟩ else (rNum l s 2).2) (rNum l s 2).1.toNat
def TextOut (w : World) (bs g : Nat) (l : List Int) (r : List Int × RS) (x : Ending) (w' : World) : Prop := x = .returned (.string (strOfNums r.1)) ∧ Only w w' g ∧ Rd w' bs g l r.2
theorem rNum_range {l : List Int} (hb : isBy l) (s : RS) : 0 ≤ (rNum l s 2).1 ∧ (rNum l s 2).1 ≤ 65535 := by
  have h := rBytes_by hb s 2
  unfold rNum
  have h2 := numOf_range (rBytes l s 2).1.length _ h.1 rfl
  simp only
  match hx : (rBytes l s 2).1.length, h.2 with
  | 0, _ => rw [hx] at h2; omega
  | 1, _ => rw [hx] at h2; omega
  | 2, _ => rw [hx] at h2; omega
theorem Text_any {w : World} {bs g : Nat} {l : List Int} {s : RS} (h : Rd w bs g l s) (most : Int) :
    Calls Try.prog 24 #[.pointer (some ⟨g, 0, none⟩), .int .i64 most] w (TextOut w bs g l (rText l s most)) := by
  have hr := rNum_range h.isb s
  have HC := Aside0.mk (Take16_any h)
  unfold rText
  generalize rNum l s 2 = r at HC hr ⊢
  obtain ⟨n, p, e⟩ := r
  simp only at hr HC ⊢
  obtain ⟨n, rfl⟩ := Int.eq_ofNat_of_zero_le hr.1
  have hn : n ≤ 65535 := by omega
  clear h hr
  rw [Int.toNat_natCast]
  have hs : ∀ (W : World) (A : Option Addr) (c : Nat) (x : List Int), (Kd.int .u8).C W A x.length x → (convert 30 9 (.slice A x.length c)).run Try.prog W = .ok (.string (strOfNums x)) W := fun W A c x hC => Kd.C_string Try.underlying30 Try.underlying5 Try.underlying9 hC
  have HS := Aside0.mk hs
  clear hs
  by_cases he : e = 0
  · subst he
    have hz : ((0 : Int) == 0) = true := rfl
    by_cases hm : most < (n : Int)
    · rw [if_pos ⟨rfl, hm⟩]
      have hm1 := decide_eq_true hm
      go_enter Try.func24, Try.ntmps24
      go_wp2_with (first | (go_at_call 25; refine HC.out.mono ?_; rintro e w1 ⟨rfl, ho, hr⟩; have HO := Aside0.mk ho; have HR := Aside0.mk hr; clear ho hr) | (go_at_call 26; refine (Err_rd HR.out).mono ?_; rintro e w2 ⟨rfl, rfl⟩) | (go_at_call 45; refine (fails_rd 4 HR.out).mono ?_; rintro e w3 ⟨rfl, ho, hr⟩; have HO2 := Aside0.mk ho; have HR2 := Aside0.mk hr; clear ho hr) | (go_at_call 46; refine (bytes_any HR2.out n (by omega)).mono ?_; rintro e w4 ⟨A, c, rfl, hC, hle, ho, hr⟩; have HO3 := Aside0.mk ho; have HR3 := Aside0.mk hr; have hs := HS.out _ _ c _ hC; clear ho hr hC hle))
      go_ret
      exact ⟨rfl, (HO.out.trans HO2.out).trans HO3.out, HR3.out⟩
    · rw [if_neg (by simpa using hm)]
      have hm1 := decide_eq_false hm
      go_enter Try.func24, Try.ntmps24
      go_wp2_with (first | (go_at_call 25; refine HC.out.mono ?_; rintro e w1 ⟨rfl, ho, hr⟩; have HO := Aside0.mk ho; have HR := Aside0.mk hr; clear ho hr) | (go_at_call 26; refine (Err_rd HR.out).mono ?_; rintro e w2 ⟨rfl, rfl⟩) | (go_at_call 46; refine (bytes_any HR.out n (by omega)).mono ?_; rintro e w4 ⟨A, c, rfl, hC, hle, ho, hr⟩; have HO3 := Aside0.mk ho; have HR3 := Aside0.mk hr; have hs := HS.out _ _ c _ hC; clear ho hr hC hle))
      go_ret
      exact ⟨rfl, HO.out.trans HO3.out, HR3.out⟩
  · rw [if_neg (by simp [he])]
    have hm1 : (e == 0) = false := beq_eq_false_iff_ne.2 he
    go_enter Try.func24, Try.ntmps24
    go_wp2_with (first | (go_at_call 25; refine HC.out.mono ?_; rintro e w1 ⟨rfl, ho, hr⟩; have HO := Aside0.mk ho; have HR := Aside0.mk hr; clear ho hr) | (go_at_call 26; refine (Err_rd HR.out).mono ?_; rintro e w2 ⟨rfl, rfl⟩) | (go_at_call 46; refine (bytes_any HR.out n (by omega)).mono ?_; rintro e w4 ⟨A, c, rfl, hC, hle, ho, hr⟩; have HO3 := Aside0.mk ho; have HR3 := Aside0.mk hr; have hs := HS.out _ _ c _ hC; clear ho hr hC hle))
    go_ret
    exact ⟨rfl, HO.out.trans HO3.out, HR3.out⟩
end Go.Proofs.Ytgbcfkcnoncgdaa.Hand
namespace Go.Proofs.Ytgbcfkcnoncgdaa.Hand
open Go.RowKit Go.Proofs.YtgbcfkcnoncgdaaW.PrintWords Go.Proofs.YtgbcfkcnoncgdaaW.PrintLast Go.Proofs.YtgbcfkcnoncgdaaW.PrintMore
set_option linter.unusedVariables false
set_option linter.unusedSimpArgs false
end Go.Proofs.Ytgbcfkcnoncgdaa.Hand
namespace Go.Proofs.Ytgbcfkcnoncgdaa.Hand
open Go.RowKit Go.Proofs.YtgbcfkcnoncgdaaW.PrintWords Go.Proofs.YtgbcfkcnoncgdaaW.PrintLast Go.Proofs.YtgbcfkcnoncgdaaW.PrintMore
set_option linter.unusedVariables false
set_option linter.unusedSimpArgs false
def ReadOut (w : World) (l : List Int) (x : Ending) (w' : World) : Prop := ∃ g, x = .returned (.pointer (some ⟨g, 0, none⟩)) ∧ Below w.heap.size w w' ∧ Rd w' w.heap.size g l ⟨0, 0⟩
theorem Read_any {w : World} {A0 : Option Addr} {c0 : Nat} {l : List Int} (hr0 : (Kd.int .u8).C w A0 l.length l) (hc0 : l.length ≤ c0) (hl : l.length < 140737488355328) (hb : isBy l) :
    Calls Try.prog 21 #[.slice A0 l.length c0] w (ReadOut w l) := by
  have HC := Aside0.mk (slices_Clone_byte_byte.calls A0 c0 l l w hr0 hc0 (by unfold slices_Clone_byte_byte.f; rw [if_pos hl]))
  have HB := Aside0.mk hb
  have HL := Aside0.mk hl
  clear hr0 hc0 hb hl
  go_enter Try.func21, Try.ntmps21
  go_wp2_with (go_at_call 43; refine HC.out.mono ?_; rintro e w1 ⟨v, rfl, hR, hbel⟩; have HR := Aside0.mk hR; have HW := Aside0.mk hbel; obtain ⟨A, c, rfl, hle, hC⟩ := Kd.R_reads hR; have HCC := Aside0.mk hC; have hsz := hbel.size; clear hR hbel hC)
  go_ret
  have hlt : w1.heap.size < (w1.alloc (.cells #[.slice A l.length c, .int .i64 0, .int .i64 0] 83)).heap.size := by simp
  refine ⟨w1.heap.size, rfl, below_alloc HW.out _, ⟨⟨A, c, heap_alloc_new _ _, hle, Kd.C_alloc HCC.out _, ?_⟩, Nat.zero_le _, Nat.le_of_lt HL.out, HB.out, hsz⟩⟩
  rintro ad rfl hp
  obtain ⟨inner, ho⟩ := Kd.R_own HR.out
  exact ⟨own_base ho ad.block rfl, own_lt ho ad.block rfl⟩
end Go.Proofs.Ytgbcfkcnoncgdaa.Hand
namespace Go.Proofs.Ytgbcfkcnoncgdaa.Hand
open Go.RowKit Go.Proofs.YtgbcfkcnoncgdaaW.PrintWords Go.Proofs.YtgbcfkcnoncgdaaW.PrintLast Go.Proofs.YtgbcfkcnoncgdaaW.PrintMore
set_option linter.unusedVariables false
set_option linter.unusedSimpArgs false
def IsRf (w : World) (g : Nat) (B : ByteArray) (at_ e : Int) : Prop := w.heap[g]? = some (.cells #[.string B, .int .i64 at_, .int .i64 e] 80 (0, 0))
theorem IsRf.c0 {w : World} {g : Nat} {B : ByteArray} {at_ e : Int} (h : IsRf w g B at_ e) : w.cell? ⟨g, 0, none⟩ = some (.string B) := by have := blk_cell h 0; simpa using this
theorem IsRf.c1 {w : World} {g : Nat} {B : ByteArray} {at_ e : Int} (h : IsRf w g B at_ e) : w.cell? ⟨g, 1, none⟩ = some (.int .i64 at_) := by have := blk_cell h 1; simpa using this
theorem IsRf.c2 {w : World} {g : Nat} {B : ByteArray} {at_ e : Int} (h : IsRf w g B at_ e) : w.cell? ⟨g, 2, none⟩ = some (.int .i64 e) := by have := blk_cell h 2; simpa using this
theorem IsRf.fr {w : World} {g : Nat} {B : ByteArray} {at_ e : Int} (h : IsRf w g B at_ e) (j : Nat) : w.frozen? ⟨g, j, none⟩ = false := blk_frozen h j
structure Rf (w : World) (g : Nat) (B : ByteArray) (s : RS) : Prop where
  blk : IsRf w g B (s.p : Int) s.e
  at_ : s.p ≤ B.size
  small : B.size ≤ 140737488355328
theorem Rf.below {w w' : World} {g : Nat} {B : ByteArray} {s : RS} (h : Rf w g B s) (hb : Below w.heap.size w w') : Rf w' g B s := ⟨(hb.block g (blk_lt h.blk)).trans h.blk, h.at_, h.small⟩
theorem Rf.other {w w' : World} {g k : Nat} {B : ByteArray} {s : RS} (h : Rf w g B s) (hk : Only w w' k) (hg : g ≠ k) : Rf w' g B s := ⟨(hk.block g (blk_lt h.blk) hg).trans h.blk, h.at_, h.small⟩
end Go.Proofs.Ytgbcfkcnoncgdaa.Hand
