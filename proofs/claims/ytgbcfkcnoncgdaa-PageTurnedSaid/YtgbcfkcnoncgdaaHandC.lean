/- In plain Lean: what the law's functions come to, and that the law answers true. -/
import Derived.Test.YtgbcfkcnoncgdaaHandB
import Derived.Test.YtgbcfkcnoncgdaaHandD
import Derived.Test.YtgbcfkcnoncgdaaSp7
import Derived.Test.YtgbcfkcnoncgdaaSp8
import Derived.Test.YtgbcfkcnoncgdaaSumTurn
import Derived.Test.YtgbcfkcnoncgdaaSp18
namespace Go.Proofs.Ytgbcfkcnoncgdaa.Pure
open Go.Proofs.Ytgbcfkcnoncgdaa.Hand
open Go.RowKit Go.Proofs.Ytgbcfkcnoncgdaa.Sp Go.Proofs.YtgbcfkcnoncgdaaW.PrintWords Go.Proofs.YtgbcfkcnoncgdaaW.PrintLast Go.Proofs.YtgbcfkcnoncgdaaW.PrintMore
set_option linter.unusedVariables false
attribute [local irreducible] textL cellL kidL num16 sealL padL strOfNums
theorem leaf0 : rightB 1 [] [] e0 0 = true := by decide
theorem enc_leaf : ∃ t, encL 1 [] [] e0 0 = 1 :: t ∧ t.length = 255 := by
  have h := body_len leaf0
  have hb : bodyL 1 [] [] e0 0 = [1, 0] := rfl
  unfold encL
  rw [hb]
  have hp : padL [1, 0] = 1 :: (0 :: List.replicate 250 0) := by unfold padL; rfl
  rw [hp]
  unfold sealL
  refine ⟨(0 :: List.replicate 250 0) ++ four _, rfl, ?_⟩
  rw [List.length_append, four_length, List.length_cons, List.length_replicate]
theorem awake_f (k : Nat) (hk : 50 < k) : sapwoodlaw04_awake.f k = some true := by
  unfold sapwoodlaw04_awake.f
  rw [encode_f 1 [] [] (⟨#[]⟩ : ByteArray) 0 (by simp) (by simp) k (by simp; omega)]
  have h0 := leaf0
  unfold e0 at h0
  rw [if_pos h0, Option.bind_some]
  obtain ⟨t, ht, hl⟩ := enc_leaf
  unfold e0 at ht
  rw [ht, if_pos rfl]
  have h1 : ((1 :: t).length : Int) = 256 := by rw [List.length_cons, hl]; rfl
  rw [if_pos h1, if_pos (by rw [h1]; decide)]
  rfl
theorem few_l1 (kind : Int) (cells : List S64) (kids : List S65) (piece : ByteArray) (next : Int) (hd : kids.length ≤ 40) (d : Nat) : ∀ (k i : Nat), i ≤ kids.length → kids.length - i = d → d < k →
    ∃ b, sapwoodlaw04_few.l1 k (kids.length : Int) (i : Int) kind cells kids piece next = some b := by
  induction d with
  | zero =>
    intro k i hi hd hk
    obtain ⟨k, rfl⟩ : ∃ m, k = m + 1 := ⟨k - 1, by omega⟩
    simp only [sapwoodlaw04_few.l1]
    rw [if_neg (by omega)]
    exact ⟨_, rfl⟩
  | succ d ih =>
    intro k i hi hd hk
    obtain ⟨k, rfl⟩ : ∃ m, k = m + 1 := ⟨k - 1, by omega⟩
    simp only [sapwoodlaw04_few.l1]
    rw [if_pos (by omega), if_pos (by omega), if_pos (by omega)]
    split
    · exact ⟨_, rfl⟩
    · rw [nx_nat i (by omega)]
      exact ih k (i + 1) (by omega) (by omega) (by omega)
theorem few_l0 (kind : Int) (cells : List S64) (kids : List S65) (piece : ByteArray) (next : Int) (hc : cells.length ≤ 40) (hd : kids.length ≤ 40) (d : Nat) : ∀ (k i : Nat), i ≤ cells.length → cells.length - i = d → d + 50 < k →
    ∃ b, sapwoodlaw04_few.l0 k (cells.length : Int) (i : Int) kind cells kids piece next = some b := by
  induction d with
  | zero =>
    intro k i hi hd hk
    obtain ⟨k, rfl⟩ : ∃ m, k = m + 1 := ⟨k - 1, by omega⟩
    simp only [sapwoodlaw04_few.l0]
    rw [if_neg (by omega)]
    exact few_l1 kind cells kids piece next ‹_› _ k 0 (by omega) rfl (by omega)
  | succ d ih =>
    intro k i hi hd hk
    obtain ⟨k, rfl⟩ : ∃ m, k = m + 1 := ⟨k - 1, by omega⟩
    simp only [sapwoodlaw04_few.l0]
    rw [if_pos (by omega), if_pos (by omega), if_pos (by omega)]
    split
    · exact ⟨_, rfl⟩
    · rw [nx_nat i (by omega)]
      exact ih k (i + 1) (by omega) (by omega) (by omega)
theorem few_f (kind : Int) (cells : List S64) (kids : List S65) (piece : ByteArray) (next : Int) (k : Nat) (hk : 200 < k) :
    ∃ b, sapwoodlaw04_few.f k kind cells kids piece next = some b ∧ (b = true → cells.length ≤ 40 ∧ kids.length ≤ 40 ∧ piece.size ≤ 1000) := by
  obtain ⟨k, rfl⟩ : ∃ m, k = m + 1 := ⟨k - 1, by omega⟩
  unfold sapwoodlaw04_few.f
  simp only [sapwoodlaw04_few.j0]
  by_cases h1 : (cells.length : Int) > 40
  · rw [if_pos h1]; exact ⟨false, rfl, fun h => by cases h⟩
  · rw [if_neg h1]
    by_cases h2 : (kids.length : Int) > 40
    · rw [if_pos h2]; exact ⟨false, rfl, fun h => by cases h⟩
    · rw [if_neg h2]
      by_cases h3 : (piece.size : Int) > 1000
      · rw [if_pos (decide_eq_true h3)]; exact ⟨false, rfl, fun h => by cases h⟩
      · rw [if_neg (by simpa using h3)]
        obtain ⟨b, hb⟩ := few_l0 kind cells kids piece next (by omega) (by omega) _ k 0 (by omega) rfl (by omega)
        exact ⟨b, hb, fun _ => by omega⟩
theorem made_l1 (kind : Int) (cells : List S64) (kids : List S65) (piece : ByteArray) (next : Int) (u : Int) (us : List S57) (s : ByteArray) (v : Int) (hd : kids.length ≤ 40) (d : Nat) : ∀ (k i : Nat), i ≤ kids.length → kids.length - i = d → d < k →
    sapwoodlaw04_made.l1 k (kids.length : Int) (i : Int) kind cells kids piece next u us ((kids.take i).map cw) s v = some (u, us, kids.map cw, s, v) := by
  induction d with
  | zero =>
    intro k i hi hd hk
    obtain ⟨k, rfl⟩ : ∃ m, k = m + 1 := ⟨k - 1, by omega⟩
    simp only [sapwoodlaw04_made.l1]
    rw [if_neg (by omega), List.take_of_length_le (by omega)]
  | succ d ih =>
    intro k i hi hd hk
    obtain ⟨k, rfl⟩ : ∃ m, k = m + 1 := ⟨k - 1, by omega⟩
    have hia : i < kids.length := by omega
    simp only [sapwoodlaw04_made.l1]
    rw [if_pos (by omega), if_pos (by omega), if_pos (by omega), if_pos (by rw [List.length_map, List.length_take]; omega), nx_nat i (by omega), rd65 hia]
    have := ih k (i + 1) (by omega) (by omega) (by omega)
    rw [List.take_succ_eq_append_getElem hia, List.map_append] at this
    exact this
theorem made_l0 (kind : Int) (cells : List S64) (kids : List S65) (piece : ByteArray) (next : Int) (u : Int) (s : ByteArray) (v : Int) (hc : cells.length ≤ 40) (hd : kids.length ≤ 40) (d : Nat) : ∀ (k i : Nat), i ≤ cells.length → cells.length - i = d → d + 50 < k →
    sapwoodlaw04_made.l0 k (cells.length : Int) (i : Int) kind cells kids piece next u ((cells.take i).map cv) s v = some (u, cells.map cv, kids.map cw, s, v) := by
  induction d with
  | zero =>
    intro k i hi hd hk
    obtain ⟨k, rfl⟩ : ∃ m, k = m + 1 := ⟨k - 1, by omega⟩
    simp only [sapwoodlaw04_made.l0]
    rw [if_neg (by omega), List.take_of_length_le (by omega)]
    have := made_l1 kind cells kids piece next u (cells.map cv) s v ‹_› _ k 0 (by omega) rfl (by omega)
    simpa using this
  | succ d ih =>
    intro k i hi hd hk
    obtain ⟨k, rfl⟩ : ∃ m, k = m + 1 := ⟨k - 1, by omega⟩
    have hia : i < cells.length := by omega
    simp only [sapwoodlaw04_made.l0]
    rw [if_pos (by omega), if_pos (by omega), if_pos (by omega), if_pos (by rw [List.length_map, List.length_take]; omega), nx_nat i (by omega), rd64 hia]
    have := ih k (i + 1) (by omega) (by omega) (by omega)
    rw [List.take_succ_eq_append_getElem hia, List.map_append] at this
    exact this
theorem made_f (kind : Int) (cells : List S64) (kids : List S65) (piece : ByteArray) (next : Int) (hc : cells.length ≤ 40) (hd : kids.length ≤ 40) (k : Nat) (hk : 200 < k) :
    sapwoodlaw04_made.f k kind cells kids piece next = some (kind, cells.map cv, kids.map cw, piece, next) := by
  unfold sapwoodlaw04_made.f
  have := made_l0 kind cells kids piece next kind piece next hc hd _ k 0 (by omega) rfl (by omega)
  simpa using this
end Go.Proofs.Ytgbcfkcnoncgdaa.Pure
namespace Go.Proofs.Ytgbcfkcnoncgdaa.Pure
open Go.Proofs.Ytgbcfkcnoncgdaa.Hand
open Go.RowKit Go.Proofs.Ytgbcfkcnoncgdaa.Sp Go.Proofs.YtgbcfkcnoncgdaaW.PrintWords Go.Proofs.YtgbcfkcnoncgdaaW.PrintLast Go.Proofs.YtgbcfkcnoncgdaaW.PrintMore
set_option linter.unusedVariables false
theorem turn_bit (m j : Nat) (hm : m < 4294967296) (hj : j < 32) : (bits .and .u32 (shr .u32 (m : Int) (j : Int)) 1 = 1) ↔ (BitVec.ofNat 32 m).getLsbD j = true := by
  have e1 : shr .u32 (m : Int) (j : Int) = ((m / 2 ^ j : Nat) : Int) := by
    unfold shr
    rw [Int.toNat_natCast, show min j IntKind.u32.bits = j by simp [IntKind.bits]; omega]
    simp
  have hlt : m / 2 ^ j < 4294967296 := Nat.lt_of_le_of_lt (Nat.div_le_self _ _) hm
  rw [e1, show (1 : Int) = ((1 : Nat) : Int) from rfl, u32_and_nat _ _ hlt (by omega), Nat.and_one_is_mod, BitVec.getLsbD_ofNat, Nat.testBit_eq_decide_div_mod_eq]
  simp only [hj, decide_true, Bool.true_and, decide_eq_true_eq]
  omega
theorem ta_31 (i : Nat) (hi : i < 32) : IntKind.u64.wrap (wrap64 (31 - (i : Int))) = ((31 - i : Nat) : Int) := by
  rw [wrap_in (by omega) (by omega), IntWalk.u64_in _ (by omega)]
  omega
theorem ta_sum (k0 i : Nat) (hk : k0 ≤ 100000) (hi : i < 32) : wrap64 ((k0 : Int) + (i : Int)) = ((k0 + i : Nat) : Int) := by
  rw [wrap_in (by omega) (by omega)]
  omega
theorem ta_div (k0 i : Nat) : Int.tdiv ((k0 + i : Nat) : Int) 8 = (((k0 + i) / 8 : Nat) : Int) := by
  rw [Int.tdiv_eq_ediv_of_nonneg (by omega)]
  omega
theorem ta_mod (k0 i : Nat) : Int.tmod ((k0 + i : Nat) : Int) 8 = (((k0 + i) % 8 : Nat) : Int) := by
  rw [Int.tmod_eq_emod_of_nonneg (by omega)]
  omega
theorem ta_wd (k0 i : Nat) (hk : k0 ≤ 100000) (hi : i < 32) : wrap64 (((k0 + i) / 8 : Nat) : Int) = (((k0 + i) / 8 : Nat) : Int) := wrap_in (by omega) (by omega)
theorem ta_wm (k0 i : Nat) : IntKind.u64.wrap (((k0 + i) % 8 : Nat) : Int) = (((k0 + i) % 8 : Nat) : Int) := IntWalk.u64_in _ (by omega)
theorem ta_shr (k0 i : Nat) : shr .u8 128 (((k0 + i) % 8 : Nat) : Int) = 128 / 2 ^ ((k0 + i) % 8) := by
  unfold shr
  rw [Int.toNat_natCast, show min ((k0 + i) % 8) IntKind.u8.bits = (k0 + i) % 8 by simp [IntKind.bits]; omega]
theorem ta_next (i : Nat) (hi : i < 32) : wrap64 ((i : Int) + 1) = ((i + 1 : Nat) : Int) := by
  rw [wrap_in (by omega) (by omega)]
  omega
theorem dec_turned {l : List Int} (hB : l.all isB = true) (hl : l.length = 256) (ho : opened l = false) (k : Nat) : ∃ r1 r2 r3 r4 r5, page_Decode.f k l = some (r1, r2, r3, r4, r5, 5) := by
  unfold page_Decode.f
  rw [if_pos ⟨hB, by omega⟩]
  have : decL l = (page0, 5) := by unfold decL; rw [if_neg (by omega), if_pos ho]
  rw [this]
  exact ⟨_, _, _, _, _, rfl⟩
theorem turn_loop (d : List Int) (m k0 : Nat) (hm : m < 4294967296) (hm0 : m ≠ 0) (hd : (sealL d).length = 256) (hk : k0 + 31 < 8 * (sealL d).length) (n : Nat) :
    ∀ (k i : Nat) (l : List Int), i ≤ 32 → 32 - i = n → n + 7000 < k → Turned (sealL d) (BitVec.ofNat 32 m) k0 i l →
      sapwoodlaw04_PageTurned.l0 k (m : Int) l (k0 : Int) (i : Int) = some true := by
  induction n with
  | zero =>
    intro k i l hi hn hkk ht
    obtain ⟨k, rfl⟩ : ∃ q, k = q + 1 := ⟨k - 1, by omega⟩
    have hi32 : i = 32 := by omega
    subst hi32
    have hl : l.length = 256 := by rw [ht.len]; exact hd
    have h0 : ¬ BitVec.ofNat 32 m = 0#32 := by
      intro h
      have := congrArg BitVec.toNat h
      simp at this
      omega
    have hop := ht.opened
    rw [decide_eq_false h0] at hop
    obtain ⟨r1, r2, r3, r4, r5, hr⟩ := dec_turned ht.bytes hl hop k
    simp only [sapwoodlaw04_PageTurned.l0]
    rw [if_neg (by omega), hr, Option.bind_some]
    rfl
  | succ n ih =>
    intro k i l hi hn hkk ht
    obtain ⟨k, rfl⟩ : ∃ q, k = q + 1 := ⟨k - 1, by omega⟩
    have hi2 : i < 32 := by omega
    have hlen := ht.len
    have p1 : (i : Int) < 32 := by omega
    have p2 : (0 : Int) ≤ ((31 - i : Nat) : Int) := by omega
    have p3 : (0 : Int) ≤ (((k0 + i) / 8 : Nat) : Int) := by omega
    have p4 : (((k0 + i) / 8 : Nat) : Int) < (l.length : Int) := by omega
    have p5 : (0 : Int) ≤ (((k0 + i) % 8 : Nat) : Int) := by omega
    have hk0 : k0 ≤ 100000 := by omega
    have e31 := ta_31 i hi2
    have esum := ta_sum k0 i hk0 hi2
    have ediv := ta_div k0 i
    have emod := ta_mod k0 i
    have ewd := ta_wd k0 i hk0 hi2
    have ewm := ta_wm k0 i
    have eshr := ta_shr k0 i
    have enext := ta_next i hi2
    simp only [sapwoodlaw04_PageTurned.l0]
    rw [e31, esum, ediv, emod, ewd, ewm, eshr, enext, if_pos p1, if_pos p2, if_pos p3, if_pos p4, if_pos p5, Int.toNat_natCast]
    clear e31 esum ediv emod ewd ewm eshr enext
    by_cases hb : (BitVec.ofNat 32 m).getLsbD (31 - i) = true
    · rw [if_pos ((turn_bit m (31 - i) hm (by omega)).2 hb)]
      exact ih k (i + 1) _ (by omega) (by omega) (by omega) (ht.flip hb hi2 hk)
    · rw [if_neg (fun h => hb ((turn_bit m (31 - i) hm (by omega)).1 h))]
      exact ih k (i + 1) _ (by omega) (by omega) (by omega) (ht.skip (by simpa using hb))
theorem mod_at (a : Nat) : wrap64 (Int.tmod (a : Int) 2017) = ((a % 2017 : Nat) : Int) := by
  have hlt : a % 2017 < 2017 := Nat.mod_lt _ (by omega)
  rw [Int.tmod_eq_emod_of_nonneg (by omega), wrap_in (by omega) (by omega)]
  omega
theorem PageTurned (kind : Int) (cells : List S64) (kids : List S65) (piece : ByteArray) (next : Int) (a1 a2 : Int) (w1 : (Lit.int .u64 a1).wf = true) (w2 : (Lit.int .u32 a2).wf = true) : ∃ k, sapwoodlaw04_PageTurned.f k kind cells kids piece next a1 a2 = some true := by
  have b1 : 0 ≤ a1 := by
    simp [Lit.wf, IntKind.min, IntKind.max, IntKind.signed, IntKind.bits] at w1
    exact w1.1
  have b2 : 0 ≤ a2 ∧ a2 < 4294967296 := by
    simp [Lit.wf, IntKind.min, IntKind.max, IntKind.signed, IntKind.bits] at w2
    omega
  obtain ⟨a, rfl⟩ := Int.eq_ofNat_of_zero_le b1
  obtain ⟨m, rfl⟩ := Int.eq_ofNat_of_zero_le b2.1
  refine ⟨10000 + 1, ?_⟩
  unfold sapwoodlaw04_PageTurned.f
  rw [awake_f _ (by omega), Option.bind_some, if_pos rfl]
  obtain ⟨b, hb, hs⟩ := few_f kind cells kids piece next (10000 + 1) (by omega)
  rw [hb, Option.bind_some]
  cases b
  · rw [if_neg (by decide)]
    simp only [sapwoodlaw04_PageTurned.j0]
    rw [if_pos trivial, awake_f _ (by omega)]; rfl
  · obtain ⟨h1, h2, h3⟩ := hs rfl
    rw [if_pos rfl]
    simp only [sapwoodlaw04_PageTurned.j0]
    by_cases hm0 : m = 0
    · rw [if_pos (by rw [hm0]; rfl), awake_f _ (by omega)]; rfl
    · have hl1 : (cells.map cv).length = cells.length := List.length_map ..
      have hl2 : (kids.map cw).length = kids.length := List.length_map ..
      rw [if_neg (by rw [beq_iff_eq]; omega), made_f kind cells kids piece next h1 h2 10000 (by omega), Option.bind_some]
      dsimp only
      rw [encode_f kind (cells.map cv) (kids.map cw) piece next (by omega) (by omega) 10000 (by omega), Option.bind_some]
      by_cases hr : rightB kind (cells.map cv) (kids.map cw) piece next = true
      · rw [if_pos hr]
        dsimp only
        have hlen : (encL kind (cells.map cv) (kids.map cw) piece next).length = 256 := by unfold encL; rw [sealL_length, padL_length _ (body_len hr)]
        rw [if_pos rfl, if_pos (by omega), mod_at]
        have hlt : a % 2017 < 2017 := Nat.mod_lt _ (by omega)
        generalize a % 2017 = k0 at hlt
        unfold encL at hlen ⊢
        exact turn_loop _ m k0 (by omega) hm0 hlen (by omega) 32 10000 0 _ (by omega) (by omega) (by omega) (Turned.start (sealL_bytes (padL_all (bodyL_all _ _ _ _ _))) _ _)
      · rw [if_neg hr]
        rfl
theorem pageTurned_walk (kind : Int) (A1 : Option Addr) (c1 : Nat) (cells : List S64) (A2 : Option Addr) (c2 : Nat) (kids : List S65) (piece : ByteArray) (next a1 a2 : Int) (W : World) (hr1 : Kd.C k64 W A1 cells.length cells) (hl1 : cells.length ≤ c1) (hr2 : Kd.C k65 W A2 kids.length kids) (hl2 : kids.length ≤ c2) (w1 : (Lit.int .u64 a1).wf = true) (w2 : (Lit.int .u32 a2).wf = true) :
    Calls Try.prog 4 #[.agg #[.int .i64 kind, .slice A1 cells.length c1, .slice A2 kids.length c2, .string piece, .int .i64 next], .int .u64 a1, .int .u32 a2] W fun e w' => e = .returned (.bool true) ∧ Below W.heap.size W w' := by
  obtain ⟨k, hk⟩ := PageTurned kind cells kids piece next a1 a2 w1 w2
  exact sapwoodlaw04_PageTurned.calls k kind A1 c1 cells A2 c2 kids piece next a1 a2 true W hr1 hl1 hr2 hl2 hk
end Go.Proofs.Ytgbcfkcnoncgdaa.Pure
