/- Sealed bytes in which bits within thirty-two side by side are turned are not opened: for all that the law looks at. -/
import Derived.Test.YtcjifdgbammocaaSumTurn
import Derived.Test.YtcjifdgbammocaaSp3
namespace Go.Proofs.Ytcjifdgbammocaa.Pure
open Go.Proofs.Ytcjifdgbammocaa.Hand
open Go.RowKit Go.Proofs.Ytcjifdgbammocaa.Sp Go.Proofs.YtcjifdgbammocaaW.PrintWords Go.Proofs.YtcjifdgbammocaaW.PrintLast Go.Proofs.YtcjifdgbammocaaW.PrintMore

theorem turn_bit (m j : Nat) (hm : m < 4294967296) (hj : j < 32) : (bits .and .u32 (shr .u32 (m : Int) (j : Int)) 1 = 1) ↔ (BitVec.ofNat 32 m).getLsbD j = true := by
  have e1 : shr .u32 (m : Int) (j : Int) = ((m / 2 ^ j : Nat) : Int) := by
    unfold shr
    rw [Int.toNat_natCast, show min j IntKind.u32.bits = j by simp [IntKind.bits]; omega]
    simp
  have hlt : m / 2 ^ j < 4294967296 := Nat.lt_of_le_of_lt (Nat.div_le_self _ _) hm
  rw [e1, show (1 : Int) = ((1 : Nat) : Int) from rfl, u32_and_nat _ _ hlt (by omega), Nat.and_one_is_mod, BitVec.getLsbD_ofNat, Nat.testBit_eq_decide_div_mod_eq]
  simp only [hj, decide_true, Bool.true_and, decide_eq_true_eq]
  omega

theorem ta_31 (i : Nat) (hi : i < 32) : IntKind.u64.wrap (wrap64 (31 - (i : Int))) = ((31 - i : Nat) : Int) := by
  rw [wrap_in (by omega) (by omega), IntWalk.u64_in _ (by omega)]
  omega
theorem ta_sum (k0 i : Nat) (hk : k0 ≤ 100000) (hi : i < 32) : wrap64 ((k0 : Int) + (i : Int)) = ((k0 + i : Nat) : Int) := by
  rw [wrap_in (by omega) (by omega)]
  omega
theorem ta_div (k0 i : Nat) : Int.tdiv ((k0 + i : Nat) : Int) 8 = (((k0 + i) / 8 : Nat) : Int) := by
  rw [Int.tdiv_eq_ediv_of_nonneg (by omega)]
  omega
theorem ta_mod (k0 i : Nat) : Int.tmod ((k0 + i : Nat) : Int) 8 = (((k0 + i) % 8 : Nat) : Int) := by
  rw [Int.tmod_eq_emod_of_nonneg (by omega)]
  omega
theorem ta_wd (k0 i : Nat) (hk : k0 ≤ 100000) (hi : i < 32) : wrap64 (((k0 + i) / 8 : Nat) : Int) = (((k0 + i) / 8 : Nat) : Int) := wrap_in (by omega) (by omega)
theorem ta_wm (k0 i : Nat) : IntKind.u64.wrap (((k0 + i) % 8 : Nat) : Int) = (((k0 + i) % 8 : Nat) : Int) := IntWalk.u64_in _ (by omega)
theorem ta_shr (k0 i : Nat) : shr .u8 128 (((k0 + i) % 8 : Nat) : Int) = 128 / 2 ^ ((k0 + i) % 8) := by
  unfold shr
  rw [Int.toNat_natCast, show min ((k0 + i) % 8) IntKind.u8.bits = (k0 + i) % 8 by simp [IntKind.bits]; omega]
theorem ta_next (i : Nat) (hi : i < 32) : wrap64 ((i : Int) + 1) = ((i + 1 : Nat) : Int) := by
  rw [wrap_in (by omega) (by omega)]
  omega

theorem turn_loop (d : List Int) (m k0 : Nat) (hm : m < 4294967296) (hd : (sealL d).length ≤ 6000) (hk : k0 + 31 < 8 * (sealL d).length) (n : Nat) :
    ∀ (k i : Nat) (l : List Int), i ≤ 32 → 32 - i = n → n + 7000 < k → Turned (sealL d) (BitVec.ofNat 32 m) k0 i l →
      sapwoodlaw02_SumTurned.l0 k (m : Int) l (k0 : Int) (i : Int) = some true := by
  induction n with
  | zero =>
    intro k i l hi hn hkk ht
    obtain ⟨k, rfl⟩ : ∃ q, k = q + 1 := ⟨k - 1, by omega⟩
    have hi32 : i = 32 := by omega
    subst hi32
    have hl : l.length ≤ 6000 := by rw [ht.len]; exact hd
    simp only [sapwoodlaw02_SumTurned.l0]
    rw [if_neg (by omega), open_f ht.bytes (by omega) k (by omega), ht.opened, Option.bind_some]
    by_cases hz : m = 0
    · subst hz
      simp
    · have h0 : ¬ BitVec.ofNat 32 m = 0#32 := by
        intro h
        have := congrArg BitVec.toNat h
        simp at this
        omega
      have h1 : ((m : Int) == 0) = false := by
        rw [beq_eq_false_iff_ne]; omega
      simp [h0, h1]
  | succ n ih =>
    intro k i l hi hn hkk ht
    obtain ⟨k, rfl⟩ : ∃ q, k = q + 1 := ⟨k - 1, by omega⟩
    have hi2 : i < 32 := by omega
    have hlen := ht.len
    have p1 : (i : Int) < 32 := by omega
    have p2 : (0 : Int) ≤ ((31 - i : Nat) : Int) := by omega
    have p3 : (0 : Int) ≤ (((k0 + i) / 8 : Nat) : Int) := by omega
    have p4 : (((k0 + i) / 8 : Nat) : Int) < (l.length : Int) := by omega
    have p5 : (0 : Int) ≤ (((k0 + i) % 8 : Nat) : Int) := by omega
    have hk0 : k0 ≤ 100000 := by omega
    have e31 := ta_31 i hi2
    have esum := ta_sum k0 i hk0 hi2
    have ediv := ta_div k0 i
    have emod := ta_mod k0 i
    have ewd := ta_wd k0 i hk0 hi2
    have ewm := ta_wm k0 i
    have eshr := ta_shr k0 i
    have enext := ta_next i hi2
    simp only [sapwoodlaw02_SumTurned.l0]
    rw [e31, esum, ediv, emod, ewd, ewm, eshr, enext, if_pos p1, if_pos p2, if_pos p3, if_pos p4, if_pos p5, Int.toNat_natCast]
    clear e31 esum ediv emod ewd ewm eshr enext
    by_cases hb : (BitVec.ofNat 32 m).getLsbD (31 - i) = true
    · rw [if_pos ((turn_bit m (31 - i) hm (by omega)).2 hb)]
      exact ih k (i + 1) _ (by omega) (by omega) (by omega) (ht.flip hb hi2 hk)
    · rw [if_neg (fun h => hb ((turn_bit m (31 - i) hm (by omega)).1 h))]
      exact ih k (i + 1) _ (by omega) (by omega) (by omega) (ht.skip (by simpa using hb))

theorem mod_8 (n : Nat) (hn : n ≤ 5000) : IntKind.u64.wrap (wrap64 (wrap64 (8 * ((n + 4 : Nat) : Int)) - 31)) = ((8 * n + 1 : Nat) : Int) := by
  rw [wrap_in (x := 8 * ((n + 4 : Nat) : Int)) (by omega) (by omega), wrap_in (by omega) (by omega), IntWalk.u64_in _ (by omega)]
  omega
theorem mod_at (a n : Nat) (hn : n ≤ 5000) : wrap64 (Int.tmod (a : Int) ((8 * n + 1 : Nat) : Int)) = ((a % (8 * n + 1) : Nat) : Int) := by
  have hlt : a % (8 * n + 1) < 8 * n + 1 := Nat.mod_lt _ (by omega)
  rw [Int.tmod_eq_emod_of_nonneg (by omega), ← Int.natCast_emod, wrap_in (by omega) (by omega)]
theorem turned_open (s : ByteArray) (a1 a2 : Int) (z : List Int) (h5 : s.size ≤ 5000) (hz : sum_Seal.f (bytesOf s) = some z) (hl : z.length = s.size + 4) (k : Nat) :
    sapwoodlaw02_SumTurned.j0 (k + 1) s a1 a2 false = sapwoodlaw02_SumTurned.l0 k a2 z (wrap64 (Int.tmod a1 ((8 * s.size + 1 : Nat) : Int))) 0 := by
  simp only [sapwoodlaw02_SumTurned.j0]
  rw [if_neg (by simp), if_pos (by omega), hz, Option.bind_some]
  rw [hl, mod_8 s.size h5, if_pos (by rw [wrap_in (by omega) (by omega)]; omega), if_neg (by omega)]
theorem turned_j0 (s : ByteArray) (a m : Nat) (hm : m < 4294967296) (h5 : s.size ≤ 5000) (k : Nat) (hk : 8000 < k) :
    sapwoodlaw02_SumTurned.j0 (k + 1) s (a : Int) (m : Int) false = some true := by
  have hb := bytesOf_all s
  have hl1 : (sealL (bytesOf s)).length = s.size + 4 := by rw [sealL_length, bytesOf_length]
  rw [turned_open s _ _ _ h5 (seal_f hb (by rw [bytesOf_length]; omega)) hl1, mod_at a s.size h5]
  have hlt : a % (8 * s.size + 1) < 8 * s.size + 1 := Nat.mod_lt _ (by omega)
  generalize a % (8 * s.size + 1) = k0 at hlt
  exact turn_loop (bytesOf s) m k0 hm (by omega) (by omega) 32 k 0 _ (by omega) (by omega) (by omega) (Turned.start (sealL_bytes hb) _ _)
theorem turned_f (s : ByteArray) (a1 a2 : Int) (k : Nat) : sapwoodlaw02_SumTurned.f k s a1 a2 = sapwoodlaw02_SumTurned.j0 k s a1 a2 (decide ((s.size : Int) > 5000)) := by
  unfold sapwoodlaw02_SumTurned.f sapwoodlaw02_awake.f
  simp only [Option.bind_some, if_true]
theorem turned_long (s : ByteArray) (a1 a2 : Int) (k : Nat) : sapwoodlaw02_SumTurned.j0 (k + 1) s a1 a2 true = some true := by
  simp only [sapwoodlaw02_SumTurned.j0, if_true]
  rfl

theorem SumTurned : sapwoodlaw02_SumTurned.Pure := by
  intro s a1 a2 hs w1 w2
  have b1 : 0 ≤ a1 := by
    simp [Lit.wf, IntKind.min, IntKind.max, IntKind.signed, IntKind.bits] at w1
    exact w1.1
  have b2 : 0 ≤ a2 ∧ a2 < 4294967296 := by
    simp [Lit.wf, IntKind.min, IntKind.max, IntKind.signed, IntKind.bits] at w2
    omega
  obtain ⟨a, rfl⟩ := Int.eq_ofNat_of_zero_le b1
  obtain ⟨m, rfl⟩ := Int.eq_ofNat_of_zero_le b2.1
  obtain ⟨k, hk⟩ : ∃ k : Nat, k = 9000 := ⟨_, rfl⟩
  refine ⟨k + 1, ?_⟩
  rw [turned_f]
  by_cases h5 : (s.size : Int) > 5000
  · rw [decide_eq_true h5]
    exact turned_long s _ _ k
  · rw [decide_eq_false h5]
    exact turned_j0 s a m (by omega) (by omega) k (by omega)
end Go.Proofs.Ytcjifdgbammocaa.Pure
