/- In plain Lean: bits within thirty-two side by side that are turned are seen by the check. -/
import Derived.Test.YtgbcfkcnoncgdaaHandB
namespace Go.Proofs.Ytgbcfkcnoncgdaa.Pure
open Go.Proofs.Ytgbcfkcnoncgdaa.Hand
open Go.RowKit Go.Proofs.Ytgbcfkcnoncgdaa.Sp Go.Proofs.YtgbcfkcnoncgdaaW.PrintWords Go.Proofs.YtgbcfkcnoncgdaaW.PrintLast
abbrev ws (l : List Int) : List Crc.W := l.map (BitVec.ofInt 32)
theorem xor_ones (r : Crc.W) : r ^^^ ~~~ r = Crc.ones := by
  apply BitVec.eq_of_getLsbD_eq
  intro i hi
  have : ∀ i : Fin 32, Crc.ones.getLsbD i.val = true := by decide
  rw [BitVec.getLsbD_xor, BitVec.getLsbD_not, this ⟨i, hi⟩]
  simp [hi]
theorem four_split (c : Nat) : four (c : Int) = [((c / 16777216 % 256 : Nat) : Int), ((c / 65536 % 256 : Nat) : Int), ((c / 256 % 256 : Nat) : Int), ((c % 256 : Nat) : Int)] := by
  unfold four
  have h1 : (c : Int) / 16777216 % 256 = ((c / 16777216 % 256 : Nat) : Int) := by omega
  have h2 : (c : Int) / 65536 % 256 = ((c / 65536 % 256 : Nat) : Int) := by omega
  have h3 : (c : Int) / 256 % 256 = ((c / 256 % 256 : Nat) : Int) := by omega
  have h4 : (c : Int) % 256 = ((c % 256 : Nat) : Int) := by omega
  rw [h1, h2, h3, h4]
theorem reg_four (r : Crc.W) (a b c d : Nat) (hb : b < 256) (hc : c < 256) (hd : d < 256) :
    Crc.regW r (ws [(a : Int), (b : Int), (c : Int), (d : Int)]) = Crc.steps 32 (r ^^^ BitVec.ofNat 32 (((a * 256 + b) * 256 + c) * 256 + d)) := by
  rw [← Crc.regW_four r a b c d hb hc hd]
  simp only [ws, List.map_cons, List.map_nil, BitVec.ofInt_natCast]
theorem reg_split (d x : List Int) : Crc.regW Crc.ones (ws (d ++ x)) = Crc.regW (Crc.reg Crc.ones d) (ws x) := by
  rw [Crc.reg_eq, ws, List.map_append, Crc.regW_append]
theorem reg_seal (d : List Int) : Crc.regW Crc.ones (ws (sealL d)) = Crc.steps 32 Crc.ones := by
  unfold sealL
  rw [reg_split]
  have hr : Crc.crc d = (((~~~ Crc.reg Crc.ones d).toNat : Nat) : Int) := rfl
  generalize Crc.reg Crc.ones d = r at hr ⊢
  rw [hr]
  have hlt := (~~~ r).isLt
  generalize hc : (~~~ r).toNat = c at hlt
  rw [four_split c, reg_four r _ _ _ _ (by omega) (by omega) (by omega)]
  have e : (((c / 16777216 % 256 * 256 + c / 65536 % 256) * 256 + c / 256 % 256) * 256 + c % 256) = c := by omega
  rw [e, ← hc, BitVec.ofNat_toNat, BitVec.setWidth_eq, xor_ones]
theorem four_of_reg (d : List Int) (a b c e : Nat) (ha : a < 256) (hb : b < 256) (hc : c < 256) (he : e < 256)
    (h : Crc.regW (Crc.reg Crc.ones d) (ws [(a : Int), (b : Int), (c : Int), (e : Int)]) = Crc.steps 32 Crc.ones) : four (Crc.crc d) = [(a : Int), (b : Int), (c : Int), (e : Int)] := by
  have hr : Crc.crc d = (((~~~ Crc.reg Crc.ones d).toNat : Nat) : Int) := rfl
  generalize Crc.reg Crc.ones d = r at hr h
  rw [reg_four r _ _ _ _ hb hc he] at h
  have h2 := Crc.steps_inj 32 _ _ h
  have h3 : BitVec.ofNat 32 (((a * 256 + b) * 256 + c) * 256 + e) = ~~~ r := by
    have h4 : r ^^^ (r ^^^ BitVec.ofNat 32 (((a * 256 + b) * 256 + c) * 256 + e)) = r ^^^ (r ^^^ ~~~ r) := by rw [h2, xor_ones]
    rw [← BitVec.xor_assoc, ← BitVec.xor_assoc, BitVec.xor_self, BitVec.zero_xor, BitVec.zero_xor] at h4
    exact h4
  have h5 : (~~~ r).toNat = ((a * 256 + b) * 256 + c) * 256 + e := by
    rw [← h3, BitVec.toNat_ofNat]
    omega
  rw [hr, h5, four_split _]
  have e1 : (((a * 256 + b) * 256 + c) * 256 + e) / 16777216 % 256 = a := by omega
  have e2 : (((a * 256 + b) * 256 + c) * 256 + e) / 65536 % 256 = b := by omega
  have e3 : (((a * 256 + b) * 256 + c) * 256 + e) / 256 % 256 = c := by omega
  have e4 : (((a * 256 + b) * 256 + c) * 256 + e) % 256 = e := by omega
  rw [e1, e2, e3, e4]
theorem opened_iff {l : List Int} (hB : l.all isB = true) (h4 : 4 ≤ l.length) : opened l = true ↔ Crc.regW Crc.ones (ws l) = Crc.steps 32 Crc.ones := by
  unfold opened
  rw [decide_eq_true_iff]
  constructor
  · rintro ⟨_, h⟩
    rw [← h, reg_seal]
  · intro h
    refine ⟨h4, ?_⟩
    have hl := List.take_append_drop (l.length - 4) l
    have hlen : (l.drop (l.length - 4)).length = 4 := by rw [List.length_drop]; omega
    have hB2 : (l.drop (l.length - 4)).all isB = true := by
      rw [List.all_eq_true] at hB ⊢
      exact fun x hx => hB x (List.mem_of_mem_drop hx)
    generalize l.take (l.length - 4) = d at hl ⊢
    generalize l.drop (l.length - 4) = x at hl hlen hB2
    subst hl
    match x, hlen with
    | [x1, x2, x3, x4], _ =>
      simp only [List.all_cons, List.all_nil, Bool.and_true, Bool.and_eq_true, isB_iff] at hB2
      obtain ⟨⟨a0, a1⟩, ⟨b0, b1⟩, ⟨c0, c1⟩, d0, d1⟩ := hB2
      obtain ⟨a, rfl⟩ := Int.eq_ofNat_of_zero_le a0
      obtain ⟨b, rfl⟩ := Int.eq_ofNat_of_zero_le b0
      obtain ⟨c, rfl⟩ := Int.eq_ofNat_of_zero_le c0
      obtain ⟨e, rfl⟩ := Int.eq_ofNat_of_zero_le d0
      rw [reg_split] at h
      unfold sealL
      rw [four_of_reg d a b c e (by omega) (by omega) (by omega) (by omega) h]
theorem pw_shift (a b : Nat) (h : a + b = 31) : Crc.steps b (1#32 <<< a) = (1#32 <<< 31 : Crc.W) := by
  rw [Crc.steps_small b _ ?_, ← BitVec.shiftLeft_add, h]
  have hp : (2 : Nat) ^ a * 2 ^ b = 2147483648 := by rw [← Nat.pow_add, h]
  have ha : (2 : Nat) ^ a ≤ 2147483648 := by
    have := Nat.pow_le_pow_right (n := 2) (by decide) (show a ≤ 31 by omega)
    simpa using this
  rw [BitVec.toNat_shiftLeft, Nat.shiftLeft_eq]
  have : (1#32).toNat * 2 ^ a % 2 ^ 32 = 2 ^ a := by
    rw [show (1#32).toNat = 1 from rfl, Nat.one_mul]
    exact Nat.mod_eq_of_lt (by omega)
  rw [this, hp]
  decide
theorem bit_move (N j m i k0 : Nat) (hp : 8 * j + m = k0 + i) (hm : m < 8) (hi : i < 32) (hN : k0 + i < N) (h8 : 8 * j ≤ N) :
    Crc.steps (N - 8 * j) (1#32 <<< (31 - m)) = Crc.steps (N - k0) (1#32 <<< (31 - i)) := by
  have h1 := pw_shift (31 - m) m (by omega)
  have h2 := pw_shift (31 - i) i (by omega)
  rw [show N - 8 * j = m + (N - 8 * j - m) by omega, ← Crc.steps_add, h1, show N - k0 = i + (N - k0 - i) by omega, ← Crc.steps_add, h2, show N - 8 * j - m = N - k0 - i by omega]
theorem bit_val (m : Nat) (hm : m < 8) : ∃ d : Nat, ((128 : Int) / 2 ^ m) = (d : Int) ∧ d < 256 ∧ (BitVec.ofNat 32 d <<< 24 : Crc.W) = 1#32 <<< (31 - m) := by
  match m, hm with
  | 0, _ => exact ⟨128, rfl, by omega, by decide⟩
  | 1, _ => exact ⟨64, rfl, by omega, by decide⟩
  | 2, _ => exact ⟨32, rfl, by omega, by decide⟩
  | 3, _ => exact ⟨16, rfl, by omega, by decide⟩
  | 4, _ => exact ⟨8, rfl, by omega, by decide⟩
  | 5, _ => exact ⟨4, rfl, by omega, by decide⟩
  | 6, _ => exact ⟨2, rfl, by omega, by decide⟩
  | 7, _ => exact ⟨1, rfl, by omega, by decide⟩
theorem set_word (l : List Int) (j : Nat) (hj : j < l.length) (b d : Nat) (hb : b < 256) (hd : d < 256) (e : rd l j = (b : Int)) :
    ws (l.set j ((b ^^^ d : Nat) : Int)) = (ws l).set j ((ws l).getD j 0#32 ^^^ BitVec.ofNat 32 d) := by
  have hlt : b ^^^ d < 2 ^ 8 := Nat.xor_lt_two_pow (by omega) (by omega)
  rw [ws, List.map_set]
  congr 1
  have h1 : (ws l).getD j 0#32 = BitVec.ofNat 32 b := by
    have h2 : l[j] = (b : Int) := by
      rw [← e]; unfold rd
      rw [Int.toNat_natCast, List.getD_eq_getElem?_getD, List.getElem?_eq_getElem hj]; rfl
    rw [List.getD_eq_getElem?_getD, ws, List.getElem?_map, List.getElem?_eq_getElem hj, h2, Option.map_some, Option.getD_some, BitVec.ofInt_natCast]
  rw [h1, BitVec.ofInt_natCast]
  apply BitVec.eq_of_toNat_eq
  rw [BitVec.toNat_xor, BitVec.toNat_ofNat, BitVec.toNat_ofNat, BitVec.toNat_ofNat, Nat.mod_eq_of_lt (a := b) (by omega), Nat.mod_eq_of_lt (a := d) (by omega), Nat.mod_eq_of_lt (by omega)]
theorem flip_byte (l : List Int) (hB : l.all isB = true) (j m : Nat) (hj : j < l.length) (hm : m < 8) :
    (l.set j (bits .xor .u8 (rd l j) (128 / 2 ^ m))).all isB = true ∧
    Crc.regW Crc.ones (ws (l.set j (bits .xor .u8 (rd l j) (128 / 2 ^ m)))) = Crc.regW Crc.ones (ws l) ^^^ Crc.steps (8 * (l.length - j)) (1#32 <<< (31 - m)) := by
  obtain ⟨h0, h1⟩ := allB hB j hj
  obtain ⟨b, hb⟩ := Int.eq_ofNat_of_zero_le h0
  obtain ⟨d, hd, hd2, hd3⟩ := bit_val m hm
  rw [hb] at h1
  have hb2 : b < 256 := by omega
  have hx : bits .xor .u8 (rd l j) (128 / 2 ^ m) = ((b ^^^ d : Nat) : Int) := by
    rw [hb, hd]
    exact u8_xor_nat b d hb2 hd2
  have hlt : b ^^^ d < 2 ^ 8 := Nat.xor_lt_two_pow (by omega) (by omega)
  rw [hx]
  constructor
  · rw [List.all_eq_true] at hB ⊢
    intro x hx
    rcases List.mem_or_eq_of_mem_set hx with h | h
    · exact hB x h
    · rw [h, isB_iff]; omega
  · rw [set_word l j hj b d hb2 hd2 hb, Crc.regW_set (ws l) j Crc.ones _ (by rw [List.length_map]; exact hj), hd3, List.length_map]
def tops (t : Crc.W) : Nat → Crc.W
  | 0 => 0#32
  | i + 1 => tops t i ^^^ (if t.getLsbD (31 - i) then 1#32 <<< (31 - i) else 0#32)
theorem tops_bit (t : Crc.W) (i : Nat) : i ≤ 32 → ∀ b, b < 32 → (tops t i).getLsbD b = (decide (32 ≤ b + i) && t.getLsbD b) := by
  induction i with
  | zero =>
    intro _ b hb
    simp [tops]
    omega
  | succ i ih =>
    intro hi b hb
    simp only [tops]
    rw [BitVec.getLsbD_xor, ih (by omega) b hb]
    by_cases e : b = 31 - i
    · subst e
      have h1 : decide (32 ≤ 31 - i + i) = false := by simp; omega
      have h2 : decide (32 ≤ 31 - i + (i + 1)) = true := by simp; omega
      rw [h1, h2]
      cases t.getLsbD (31 - i) <;> simp [BitVec.getLsbD_shiftLeft]
      omega
    · have h3 : (if t.getLsbD (31 - i) = true then (1#32 <<< (31 - i) : Crc.W) else 0#32).getLsbD b = false := by
        cases t.getLsbD (31 - i)
        · simp
        · simp only [if_true, BitVec.getLsbD_shiftLeft, BitVec.getLsbD_one]
          simp; omega
      rw [h3]
      have : decide (32 ≤ b + i) = decide (32 ≤ b + (i + 1)) := by
        rw [decide_eq_decide]; omega
      rw [this]; simp
theorem tops_all (t : Crc.W) : tops t 32 = t := by
  apply BitVec.eq_of_getLsbD_eq
  intro b hb
  rw [tops_bit t 32 (by omega) b hb]
  simp
structure Turned (l0 : List Int) (t : Crc.W) (k0 : Nat) (i : Nat) (l : List Int) : Prop where
  len : l.length = l0.length
  bytes : l.all isB = true
  reg : Crc.regW Crc.ones (ws l) = Crc.regW Crc.ones (ws l0) ^^^ Crc.steps (8 * l0.length - k0) (tops t i)
theorem Turned.start {l0 : List Int} (h : l0.all isB = true) (t : Crc.W) (k0 : Nat) : Turned l0 t k0 0 l0 := ⟨rfl, h, by simp [tops, Crc.steps_zero]⟩
theorem Turned.skip {l0 l : List Int} {t : Crc.W} {k0 i : Nat} (h : Turned l0 t k0 i l) (hb : t.getLsbD (31 - i) = false) : Turned l0 t k0 (i + 1) l :=
  ⟨h.len, h.bytes, by rw [h.reg]; simp [tops, hb]⟩
theorem Turned.flip {l0 l : List Int} {t : Crc.W} {k0 i : Nat} (h : Turned l0 t k0 i l) (hb : t.getLsbD (31 - i) = true) (hi : i < 32) (hk : k0 + 31 < 8 * l0.length) :
    Turned l0 t k0 (i + 1) (l.set ((k0 + i) / 8) (bits .xor .u8 (rd l ((k0 + i) / 8 : Nat)) (128 / 2 ^ ((k0 + i) % 8)))) := by
  have hj : (k0 + i) / 8 < l.length := by rw [h.len]; omega
  obtain ⟨h1, h2⟩ := flip_byte l h.bytes ((k0 + i) / 8) ((k0 + i) % 8) hj (by omega)
  refine ⟨by rw [List.length_set, h.len], h1, ?_⟩
  have hm := bit_move (8 * l0.length) ((k0 + i) / 8) ((k0 + i) % 8) i k0 (by omega) (by omega) hi (by omega) (by omega)
  rw [h2, h.reg, h.len, show 8 * (l0.length - (k0 + i) / 8) = 8 * l0.length - 8 * ((k0 + i) / 8) by omega, hm]
  simp only [tops, hb, if_true]
  rw [Crc.steps_xor, BitVec.xor_assoc]
theorem Turned.opened {d l : List Int} {t : Crc.W} {k0 : Nat} (h : Turned (sealL d) t k0 32 l) : opened l = decide (t = 0#32) := by
  rw [Bool.eq_iff_iff, opened_iff h.bytes (by rw [h.len, sealL_length]; omega), h.reg, reg_seal, tops_all, decide_eq_true_iff]
  constructor
  · intro e
    apply Crc.steps_eq_zero (8 * (sealL d).length - k0)
    have e2 : Crc.steps 32 Crc.ones ^^^ (Crc.steps 32 Crc.ones ^^^ Crc.steps (8 * (sealL d).length - k0) t) = Crc.steps 32 Crc.ones ^^^ Crc.steps 32 Crc.ones := by rw [e]
    rw [← BitVec.xor_assoc, BitVec.xor_self, BitVec.zero_xor] at e2
    exact e2
  · rintro rfl
    rw [Crc.steps_zero, BitVec.xor_zero]
end Go.Proofs.Ytgbcfkcnoncgdaa.Pure
