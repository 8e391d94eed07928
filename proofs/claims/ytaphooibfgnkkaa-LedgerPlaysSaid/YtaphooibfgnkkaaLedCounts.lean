/- The walk of LedgerCounts. -/
import Derived.Test.YtaphooibfgnkkaaLedTwo
namespace Go.Proofs.Ytaphooibfgnkkaa.Hand
open Go.RowKit Go.Proofs.YtaphooibfgnkkaaW.PrintWords Go.Proofs.YtaphooibfgnkkaaW.PrintLast Go.Proofs.YtaphooibfgnkkaaW.PrintMore
set_option linter.unusedVariables false
set_option linter.unusedSimpArgs false
theorem used_put (O N T : Marks) (k j : Nat) : usedB O N (put_ T k) j = if j = k then true else usedB O N T j := by
  unfold usedB put_
  by_cases h : j = k
  · rw [if_pos h, if_pos h, Bool.or_true]
  · rw [if_neg h, if_neg h]
theorem freeN_take {U V : Nat → Bool} {k : Nat} (hu : U k = false) (hv : ∀ j, V j = if j = k then true else U j) : ∀ n, freeN V n + (if k < n then 1 else 0) = freeN U n
  | 0 => rfl
  | n + 1 => by
    have h := freeN_take hu hv n
    simp only [freeN]
    rw [hv n]
    by_cases e : n = k
    · subst e
      have h' : freeN V n = freeN U n := by simpa using h
      simp [hu, h']
    · rw [if_neg e]
      have e2 : (if k < n + 1 then 1 else 0 : Nat) = (if k < n then 1 else 0) := by
        by_cases hk : k < n
        · rw [if_pos hk, if_pos (by omega)]
        · rw [if_neg hk, if_neg (by omega)]
      rw [e2]
      generalize (if k < n then 1 else 0 : Nat) = z at h ⊢
      generalize (if U n = true then 0 else 1 : Nat) = y
      omega
theorem freeN_zero {U : Nat → Bool} : ∀ n, (∀ j, j < n → U j = true) → freeN U n = 0
  | 0, _ => rfl
  | n + 1, h => by rw [freeN, freeN_zero n (fun j hj => h j (by omega)), h n (by omega)]; rfl
theorem free_some {O N T : Marks} {n k : Nat} (h : takeF (usedB O N T) n = some k) : freeN (usedB O N (put_ T k)) n + 1 = freeN (usedB O N T) n := by
  obtain ⟨_, h2, h3, _⟩ := takeF_is h
  have := freeN_take h3 (used_put O N T k) n
  rw [if_pos h2] at this
  exact this
theorem free_none {O N T : Marks} {n : Nat} (h : takeF (usedB O N T) n = none) : freeN (usedB O N T) n = 0 := by
  refine freeN_zero n fun j hj => ?_
  by_cases h2 : 2 ≤ j
  · exact takeF_not h j h2 hj
  · unfold usedB; rw [decide_eq_true (by omega)]; rfl
def cntI (n : Nat) (O N T : Marks) : Nat → Nat
  | 0 => 0
  | j + 1 => cntI n O N T j + if useI n O N T ((j : Int) - 5) then 1 else 0
theorem cntI_is (n : Nat) (O N T : Marks) : ∀ j, cntI n O N T j + freeN (usedB O N T) (min (j - 5) n) = min (j - 5) n
  | 0 => rfl
  | j + 1 => by
    have h := cntI_is n O N T j
    simp only [cntI]
    by_cases h1 : j < 5
    · have e : useI n O N T ((j : Int) - 5) = false := by unfold useI; rw [decide_eq_false (by omega)]; rfl
      rw [e, show j + 1 - 5 = 0 by omega]
      rw [show j - 5 = 0 by omega] at h
      simpa using h
    · by_cases h2 : j - 5 < n
      · have e : useI n O N T ((j : Int) - 5) = usedB O N T (j - 5) := by
          unfold useI
          rw [decide_eq_true (by omega), decide_eq_true (by omega), show ((j : Int) - 5).toNat = j - 5 by omega]; rfl
        rw [show min (j - 5) n = j - 5 by omega] at h
        rw [e, show min (j + 1 - 5) n = (j - 5) + 1 by omega, freeN]
        cases usedB O N T (j - 5) <;> simp <;> omega
      · have e : useI n O N T ((j : Int) - 5) = false := by unfold useI; rw [decide_eq_false (show ¬ (j : Int) - 5 < (n : Int) by omega), Bool.and_false]; rfl
        rw [e, show min (j + 1 - 5) n = min (j - 5) n by omega]
        simpa using h
theorem cntI_all (n : Nat) (O N T : Marks) : cntI n O N T (n + 10) + freeN (usedB O N T) n = n := by
  have := cntI_is n O N T (n + 10)
  rwa [show min (n + 10 - 5) n = n by omega] at this
theorem cntI_le (n : Nat) (O N T : Marks) : ∀ j, cntI n O N T j ≤ j
  | 0 => Nat.le_refl _
  | j + 1 => by
    have := cntI_le n O N T j
    simp only [cntI]
    split <;> omega
def CountRel (w : World) (g n : Nat) (O N : Marks) (m : Nat) (f i : Value) (wr : World) : Prop :=
  ∃ (k : Nat) (T : Marks), k ≤ m ∧ i = .int .u8 (k : Int) ∧ f = .int .i64 (freeN (usedB O N T) n : Int) ∧ Lg wr g n O N T ∧ Below w.heap.size w wr
def CountRel2 (n : Nat) (O N T : Marks) (u i : Value) : Prop := ∃ j : Nat, j ≤ n + 10 ∧ i = .int .i64 ((j : Int) - 5) ∧ u = .int .i64 (cntI n O N T j : Int)
set_option maxHeartbeats 4000000 in
theorem counts_walk (p : Int) (m : Nat) {w : World} {A B : Option Addr} {c d : Nat} {l l2 : List Int} (hp : 0 ≤ p ∧ p ≤ 65535) (hm : m ≤ 255) (hC : (Kd.int .i64).C w A l.length l) (hC2 : (Kd.int .i64).C w B l2.length l2) (hl : l.length ≤ 17592186044416) (hl2 : l2.length ≤ 17592186044416) :
    Calls Try.prog 4 #[.int .u16 p, .slice A l.length c, .slice B l2.length d, .int .u8 (m : Int)] w fun e w' => e = .returned (.bool true) ∧ Below w.heap.size w w' := by
  have HC := Aside0.mk hC
  have HC2 := Aside0.mk hC2
  clear hC hC2
  have hs : IntKind.i64.wrap ((l.length : Int) + (l2.length : Int)) = (l.length : Int) + (l2.length : Int) := IntWalk.i64_in _ (by omega)
  by_cases h1 : l.length + l2.length ≤ 300
  · have t1 : decide (300 < (l.length : Int) + (l2.length : Int)) = false := decide_eq_false (by omega)
    obtain ⟨n, hn⟩ : ∃ n : Nat, p % 513 = (n : Int) := ⟨(p % 513).toNat, by omega⟩
    have hn2 : n ≤ 512 := by omega
    have HN := Aside0.mk (fun W => new_any (n : Int) W n (Or.inr (Or.inr ⟨rfl, hn2⟩)))
    go_enter Try.func4, Try.ntmps4
    go_wp2_with (first | (go_at_call 8; refine (awake_true _).mono ?_; rintro e w1 ⟨rfl, hb⟩; have HB1 := Aside0.mk hb; clear hb) | (go_at_call 9; refine (HN.out _).mono ?_; rintro e w2 ⟨rfl, hb, hl⟩; have HB2 := Aside0.mk (below_step HB1.out hb); have HL2 := Aside0.mk hl; have HG : Aside0 (w.heap.size ≤ w1.heap.size) := ⟨HB1.out.size⟩; clear hb hl) | (go_at_call 13; refine (reset_any (c := c) (d := d) HL2.out (Kd.C_below HC.out HB2.out) (Kd.C_below HC2.out HB2.out) (by omega) (by omega)).mono ?_; rintro e w3 ⟨rfl, ho, hl⟩; have HB3 := Aside0.mk (ho.below HB2.out HG.out HB2.out.size); have HL3 := Aside0.mk hl; clear ho hl) | (go_at_call 11; refine (free_any HL3.out).mono ?_; rintro e w6 ⟨rfl, rfl⟩))
    go_loopw [11, 12, 13, 41] (fun f _ _ i wr => CountRel w w1.heap.size n (setF l) (setF l2) m f i wr) (fun _ _ _ i _ => m - (intOf i).toNat)
    case atStart => exact ⟨0, none_, Nat.zero_le _, rfl, rfl, HL3.out, HB3.out⟩
    case round =>
      obtain ⟨k, T, hk, rfl, rfl, hL, hB⟩ := hrel
      have hf := freeN_le (usedB (setF l) (setF l2) T) n
      have HLr := Aside0.mk hL
      have HBr := Aside0.mk hB
      clear hL hB
      by_cases hlt : k < m
      · cases ht : takeF (usedB (setF l) (setF l2) T) n with
        | none =>
          have hz := free_none ht
          have HT := Aside0.mk ht
          clear ht
          have HTK : Aside0 (Calls Try.prog 14 #[.pointer (some ⟨w1.heap.size, 0, none⟩)] wr fun e w' => e = .returned (.tuple #[.int .i64 0, .int .i64 8]) ∧ Only wr w' w1.heap.size ∧ Lg w' w1.heap.size n (setF l) (setF l2) T) := ⟨by have := take_any HLr.out; unfold TakeOut at this; rw [HT.out] at this; exact this⟩
          rw [hz]
          have HZ := Aside0.mk hz
          clear hz hf
          go_wp2_with (first | (go_at_call 14; refine HTK.out.mono ?_; rintro e w7 ⟨rfl, ho, hl⟩; have HB7 := Aside0.mk (ho.below HBr.out HG.out HBr.out.size); have HL7 := Aside0.mk hl; clear ho hl) | (go_at_call 11; refine (free_any HL7.out).mono ?_; rw [HZ.out]; rintro e w8 ⟨rfl, rfl⟩))
          go_roundw
          case rel => exact ⟨k + 1, T, by omega, by go_num, by rw [HZ.out]; rfl, HL7.out, HB7.out⟩
          case measure => simp [intOf]; omega
        | some q =>
          have hz := free_some ht
          have HT := Aside0.mk ht
          clear ht
          have HTK : Aside0 (Calls Try.prog 14 #[.pointer (some ⟨w1.heap.size, 0, none⟩)] wr fun e w' => e = .returned (.tuple #[.int .i64 (q : Int), .int .i64 0]) ∧ Only wr w' w1.heap.size ∧ Lg w' w1.heap.size n (setF l) (setF l2) (put_ T q)) := ⟨by have := take_any HLr.out; unfold TakeOut at this; rw [HT.out] at this; exact this⟩
          have hF : (freeN (usedB (setF l) (setF l2) T) n : Int) = (freeN (usedB (setF l) (setF l2) (put_ T q)) n : Int) + 1 := by omega
          have hf2 := freeN_le (usedB (setF l) (setF l2) (put_ T q)) n
          rw [hF]
          clear hF hz hf
          generalize hX : freeN (usedB (setF l) (setF l2) (put_ T q)) n = X at hf2 ⊢
          have HX := Aside0.mk hX
          clear hX
          have z1 : decide ((0 : Int) < (X : Int) + 1) = true := decide_eq_true (by omega)
          have z2 : (0 : Int) ≤ (X : Int) := by omega
          have z3 : ((X : Int) != (X : Int)) = false := by simp
          have hif : (if 0 < X then (X : Int) else 0) = (X : Int) := by split <;> omega
          go_wp2_with (first | (go_at_call 14; refine HTK.out.mono ?_; rintro e w7 ⟨rfl, ho, hl⟩; have HB7 := Aside0.mk (ho.below HBr.out HG.out HBr.out.size); have HL7 := Aside0.mk hl; clear ho hl) | (go_at_call 11; refine (free_any HL7.out).mono ?_; rw [HX.out]; rintro e w8 ⟨rfl, rfl⟩))
          go_roundw
          case rel => exact ⟨k + 1, put_ T q, by omega, by go_num, by rw [HX.out], HL7.out, HB7.out⟩
          case measure => simp [intOf]; omega
      · go_wp2
        go_loop [14, 15] (fun u i => CountRel2 n (setF l) (setF l2) T u i) (fun _ i => n + 10 - (intOf i + 5).toNat)
        case atStart => exact ⟨0, by omega, rfl, rfl⟩
        case round =>
          obtain ⟨j, hj, rfl, rfl⟩ := hrel
          have hcl := cntI_le n (setF l) (setF l2) T j
          by_cases hlj : j < n + 10
          · have z1 : decide ((j : Int) - 5 < (n : Int) + 5) = true := decide_eq_true (by omega)
            have HU := Aside0.mk (use_any HLr.out ((j : Int) - 5))
            generalize hu : useI n (setF l) (setF l2) T ((j : Int) - 5) = u at HU
            have HUU := Aside0.mk hu
            clear hu
            cases u
            · go_wp2_with (go_at_call 12; refine HU.out.mono ?_; rintro e w7 ⟨rfl, rfl⟩)
              go_round
              case rel => exact ⟨j + 1, by omega, congrArg (Value.int .i64) (by omega), by rw [cntI, HUU.out]; rfl⟩
              case measure => simp [intOf]; omega
            · go_wp2_with (go_at_call 12; refine HU.out.mono ?_; rintro e w7 ⟨rfl, rfl⟩)
              go_round
              case rel => exact ⟨j + 1, by omega, congrArg (Value.int .i64) (by omega), by rw [cntI, HUU.out]; exact congrArg (Value.int .i64) (by simp)⟩
              case measure => simp [intOf]; omega
          · have z1 : decide ((j : Int) - 5 < (n : Int) + 5) = false := decide_eq_false (by omega)
            have hall := cntI_all n (setF l) (setF l2) T
            obtain rfl : j = n + 10 := by omega
            have HF := Aside0.mk (free_any HLr.out)
            generalize freeN (usedB (setF l) (setF l2) T) n = F at HF hall hf
            generalize cntI n (setF l) (setF l2) T (n + 10) = U at hall hcl ⊢
            have z2 : ((U : Int) + (F : Int) == (n : Int)) = true := beq_iff_eq.2 (by omega)
            clear hall
            go_wp2_with (go_at_call 11; refine HF.out.mono ?_; rintro e w8 ⟨rfl, rfl⟩)
            go_ret
            exact ⟨rfl, HBr.out⟩
  · have t1 : decide (300 < (l.length : Int) + (l2.length : Int)) = true := decide_eq_true (by omega)
    go_enter Try.func4, Try.ntmps4
    go_wp2_with (first | (go_at_call 8; refine (awake_true _).mono ?_; rintro e w1 ⟨rfl, hb⟩; (first | (have n_ := Aside0.mk (below_step HB.out hb); clear HB; have HB := n_; clear n_) | have HB := Aside0.mk hb); clear hb))
    go_ret
    exact ⟨rfl, HB.out⟩
theorem u16_rg {v : Int} (h : (Lit.int .u16 v).wf = true) : 0 ≤ v ∧ v ≤ 65535 := by
  simp [Lit.wf, IntKind.min, IntKind.max, IntKind.signed, IntKind.bits] at h
  omega
theorem u8_rg {v : Int} (h : (Lit.int .u8 v).wf = true) : 0 ≤ v ∧ v ≤ 255 := by
  simp [Lit.wf, IntKind.min, IntKind.max, IntKind.signed, IntKind.bits] at h
  omega
theorem counts_any (p t : Int) {w : World} {A B : Option Addr} {c d : Nat} {l l2 : List Int} (hp : 0 ≤ p ∧ p ≤ 65535) (ht : 0 ≤ t ∧ t ≤ 255) (hC : (Kd.int .i64).C w A l.length l) (hC2 : (Kd.int .i64).C w B l2.length l2) (hl : l.length ≤ 17592186044416) (hl2 : l2.length ≤ 17592186044416) :
    Calls Try.prog 4 #[.int .u16 p, .slice A l.length c, .slice B l2.length d, .int .u8 t] w fun e w' => e = .returned (.bool true) ∧ Below w.heap.size w w' := by
  obtain ⟨m, rfl⟩ := Int.eq_ofNat_of_zero_le ht.1
  exact counts_walk p m hp (by omega) hC hC2 hl hl2
end Go.Proofs.Ytaphooibfgnkkaa.Hand
