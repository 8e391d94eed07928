/- The walk of LedgerOnce. -/
import Derived.Test.YtaphooibfgnkkaaLedCounts
namespace Go.Proofs.Ytaphooibfgnkkaa.Hand
open Go.RowKit Go.Proofs.YtaphooibfgnkkaaW.PrintWords Go.Proofs.YtaphooibfgnkkaaW.PrintLast Go.Proofs.YtaphooibfgnkkaaW.PrintMore
set_option linter.unusedVariables false
set_option linter.unusedSimpArgs false
theorem setF_mem {l : List Int} {j k : Nat} (h : setF l j = false) (hk : k < l.length) : ((l.getD k 0) == (j : Int)) = false := by
  have hm : l.getD k 0 ∈ l := by rw [List.getD_eq_getElem?_getD, List.getElem?_eq_getElem hk]; exact List.getElem_mem hk
  rw [beq_eq_false_iff_ne]
  intro e
  rw [e] at hm
  simp [setF, hm] at h
theorem used_false {O N T : Marks} {k : Nat} (h : usedB O N T k = false) : 2 ≤ k ∧ O k = false ∧ N k = false ∧ T k = false := by
  unfold usedB at h
  simp only [Bool.or_eq_false_iff, decide_eq_false_iff_not] at h
  exact ⟨by have := h.1.1.1; omega, h.1.1.2, h.1.2, h.2⟩
/-- How it stands behind so many takings. -/
structure Once (n : Nat) (O N T : Marks) (free k last : Nat) : Prop where
  left : freeN (usedB O N T) n + k = free
  low : ∀ j, j ≤ last → usedB O N T j = true ∨ n ≤ j
  one : 1 ≤ last
theorem Once.next {n : Nat} {O N T : Marks} {free k last : Nat} (h : Once n O N T free k last) (hk : k < free) :
    ∃ i, takeF (usedB O N T) n = some i ∧ last < i ∧ i < n ∧ O i = false ∧ N i = false ∧ Once n O N (put_ T i) free (k + 1) i := by
  cases ht : takeF (usedB O N T) n with
  | none => have := free_none ht; have := h.left; omega
  | some i =>
    obtain ⟨h2, hn, hu, hj⟩ := takeF_is ht
    have hf := free_some ht
    have hu2 := used_false hu
    refine ⟨i, rfl, ?_, hn, hu2.2.1, hu2.2.2.1, ⟨by have := h.left; omega, fun j hji => ?_, by omega⟩⟩
    · rcases Nat.lt_or_ge last i with hl | hl
      · exact hl
      · rcases h.low i hl with h' | h'
        · rw [hu] at h'; cases h'
        · omega
    · rw [used_put]
      by_cases e : j = i
      · rw [if_pos e]; exact Or.inl rfl
      · rw [if_neg e]
        by_cases hj2 : 2 ≤ j
        · exact Or.inl (hj j hj2 (by omega))
        · left; unfold usedB; rw [decide_eq_true (by omega)]; rfl
theorem Once.done {n : Nat} {O N T : Marks} {free last : Nat} (h : Once n O N T free free last) : takeF (usedB O N T) n = none := by
  cases ht : takeF (usedB O N T) n with
  | none => rfl
  | some i => have := free_some ht; have := h.left; omega
def OnceRel (w : World) (g n : Nat) (O N : Marks) (free : Nat) (last i : Value) (wr : World) : Prop :=
  ∃ (k s : Nat) (T : Marks), k ≤ free ∧ i = .int .i64 (k : Int) ∧ last = .int .i64 (s : Int) ∧ Once n O N T free k s ∧ Lg wr g n O N T ∧ Below w.heap.size w wr
def UpTo (n : Nat) (i : Value) : Prop := ∃ k : Nat, k ≤ n ∧ i = .int .i64 (k : Int)
set_option maxHeartbeats 4000000 in
set_option maxRecDepth 100000 in
theorem once_walk (p : Int) {w : World} {A B : Option Addr} {c d : Nat} {l l2 : List Int} (hp : 0 ≤ p ∧ p ≤ 65535) (hC : (Kd.int .i64).C w A l.length l) (hC2 : (Kd.int .i64).C w B l2.length l2) (hl : l.length ≤ 17592186044416) (hl2 : l2.length ≤ 17592186044416) :
    Calls Try.prog 5 #[.int .u16 p, .slice A l.length c, .slice B l2.length d] w fun e w' => e = .returned (.bool true) ∧ Below w.heap.size w w' := by
  have HC := Aside0.mk hC
  have HC2 := Aside0.mk hC2
  clear hC hC2
  have hs : IntKind.i64.wrap ((l.length : Int) + (l2.length : Int)) = (l.length : Int) + (l2.length : Int) := IntWalk.i64_in _ (by omega)
  by_cases h1 : l.length + l2.length ≤ 300
  · have t1 : decide (300 < (l.length : Int) + (l2.length : Int)) = false := decide_eq_false (by omega)
    obtain ⟨q, hn⟩ : ∃ q : Nat, p % 600 = (q : Int) := ⟨(p % 600).toNat, by omega⟩
    obtain ⟨n, hmin, hn2⟩ : ∃ n : Nat, n = min q 512 ∧ n ≤ 512 := ⟨_, rfl, by omega⟩
    have HN := Aside0.mk (fun W => new_any (q : Int) W n (by omega))
    have hq : q ≤ 600 := by omega
    have hif : (if (512 : Int) < (q : Int) then (512 : Int) else (q : Int)) = (n : Int) := by split <;> omega
    clear hmin
    go_enter Try.func5, Try.ntmps5
    go_wp2_with (first | (go_at_call 8; refine (awake_true _).mono ?_; rintro e w1 ⟨rfl, hb⟩; have HB1 := Aside0.mk hb; clear hb) | (go_at_call 9; refine (HN.out _).mono ?_; rintro e w2 ⟨rfl, hb, hl⟩; have HB2 := Aside0.mk (below_step HB1.out hb); have HL2 := Aside0.mk hl; have HG : Aside0 (w.heap.size ≤ w1.heap.size) := ⟨HB1.out.size⟩; clear hb hl) | (go_at_call 10; have _q := HL3; refine (commit_any (c := d) HL3.out (Kd.C_below HC2.out HB3.out) (by omega)).mono ?_; rintro e w4 ⟨rfl, ho, hl⟩; have HB4 := Aside0.mk (ho.below HB3.out HG.out HB3.out.size); have HL4 := Aside0.mk hl; clear ho hl) | (go_at_call 10; refine (commit_any (c := c) HL2.out (Kd.C_below HC.out HB2.out) (by omega)).mono ?_; rintro e w3 ⟨rfl, ho, hl⟩; have HB3 := Aside0.mk (ho.below HB2.out HG.out HB2.out.size); have HL3 := Aside0.mk hl; clear ho hl) | (go_at_call 11; refine (free_any HL4.out).mono ?_; rintro e w6 ⟨rfl, rfl⟩))
    have hf := freeN_le (usedB (setF l) (setF l2) none_) n
    generalize hF : freeN (usedB (setF l) (setF l2) none_) n = free at hf ⊢
    have HF := Aside0.mk hF
    clear hF
    go_loopw [10, 44] (fun last i wr => OnceRel w w1.heap.size n (setF l) (setF l2) free last i wr) (fun _ i _ => free - (intOf i).toNat)
    case atStart => exact ⟨0, 1, none_, Nat.zero_le _, rfl, rfl, ⟨HF.out, fun j hj => Or.inl (by unfold usedB; rw [decide_eq_true (by omega)]; rfl), Nat.le_refl _⟩, HL4.out, HB4.out⟩
    case round =>
      obtain ⟨k, s, T, hk, rfl, rfl, hO, hL, hB⟩ := hrel
      have HO := Aside0.mk hO
      have HLr := Aside0.mk hL
      have HBr := Aside0.mk hB
      clear hO hL hB
      by_cases hlt : k < free
      · obtain ⟨i, ht, h3, h4, h5, h6, hnx⟩ := HO.out.next hlt
        have HTK : Aside0 (Calls Try.prog 14 #[.pointer (some ⟨w1.heap.size, 0, none⟩)] wr fun e w' => e = .returned (.tuple #[.int .i64 (i : Int), .int .i64 0]) ∧ Only wr w' w1.heap.size ∧ Lg w' w1.heap.size n (setF l) (setF l2) (put_ T i)) := ⟨by have := take_any HLr.out; unfold TakeOut at this; rw [ht] at this; exact this⟩
        have z1 : decide ((i : Int) ≤ (s : Int)) = false := decide_eq_false (by omega)
        have y1 : (i ≤ s) = False := eq_false (by omega)
        have y2 : (s < i) = True := eq_true h3
        have y3 : (n ≤ i) = False := eq_false (by omega)
        have y4 : (i < n) = True := eq_true h4
        have HX := Aside0.mk hnx
        have HA1 : Aside0 (∀ k, k < l.length → ((l.getD k 0) == (i : Int)) = false) := ⟨fun k hk => setF_mem h5 hk⟩
        have HA2 : Aside0 (∀ k, k < l2.length → ((l2.getD k 0) == (i : Int)) = false) := ⟨fun k hk => setF_mem h6 hk⟩
        clear ht h3 h5 h6 hnx
        go_wp2_with (go_at_call 14; refine HTK.out.mono ?_; rintro e w7 ⟨rfl, ho, hl⟩; have HB7 := Aside0.mk (ho.below HBr.out HG.out HBr.out.size); have HL7 := Aside0.mk hl; clear ho hl)
        go_loop [13, 66] (fun _ i => UpTo l.length i) (fun _ i => l.length - (intOf i).toNat)
        case atStart => exact ⟨0, Nat.zero_le _, rfl⟩
        case round =>
          obtain ⟨j, hj, rfl⟩ := hrel
          by_cases hlj : j < l.length
          · obtain ⟨ad, hA, hcell⟩ := (Kd.reads_of_C (enc := Value.int .i64) (d := (0 : Int)) (h1 := fun _ => rfl) (Kd.C_below HC.out HB7.out)).2.2 (by omega)
            subst hA
            have hk' := hcell j hlj
            clear hcell
            have hne := HA1.out j hlj
            generalize l.getD j 0 = x at hk' hne
            go_wp2
            go_round
            case rel => exact ⟨j + 1, by omega, by go_num⟩
            case measure => simp [intOf]; omega
          · go_wp2
            go_loop [14, 78] (fun _ i => UpTo l2.length i) (fun _ i => l2.length - (intOf i).toNat)
            case atStart => exact ⟨0, Nat.zero_le _, rfl⟩
            case round =>
              obtain ⟨j2, hj2, rfl⟩ := hrel
              by_cases hlj2 : j2 < l2.length
              · obtain ⟨ad, hA, hcell⟩ := (Kd.reads_of_C (enc := Value.int .i64) (d := (0 : Int)) (h1 := fun _ => rfl) (Kd.C_below HC2.out HB7.out)).2.2 (by omega)
                subst hA
                have hk' := hcell j2 hlj2
                clear hcell
                have hne := HA2.out j2 hlj2
                generalize l2.getD j2 0 = x at hk' hne
                go_wp2
                go_round
                case rel => exact ⟨j2 + 1, by omega, by go_num⟩
                case measure => simp [intOf]; omega
              · go_wp2
                go_roundw
                case rel => exact ⟨k + 1, i, put_ T i, by omega, by go_num, rfl, HX.out, HL7.out, HB7.out⟩
                case measure => simp [intOf]; omega
      · obtain rfl : k = free := by omega
        have ht := HO.out.done
        have HTK : Aside0 (Calls Try.prog 14 #[.pointer (some ⟨w1.heap.size, 0, none⟩)] wr fun e w' => e = .returned (.tuple #[.int .i64 0, .int .i64 8]) ∧ Only wr w' w1.heap.size ∧ Lg w' w1.heap.size n (setF l) (setF l2) T) := ⟨by have := take_any HLr.out; unfold TakeOut at this; rw [ht] at this; exact this⟩
        clear ht
        go_wp2_with (first | (go_at_call 14; refine HTK.out.mono ?_; rintro e w7 ⟨rfl, ho, hl⟩; have HB7 := Aside0.mk (ho.below HBr.out HG.out HBr.out.size); have HL7 := Aside0.mk hl; clear ho hl) | (go_at_call 15; refine (abort_any HL7.out).mono ?_; rintro e w8 ⟨rfl, ho, hl⟩; have HB8 := Aside0.mk (ho.below HB7.out HG.out HB7.out.size); have HL8 := Aside0.mk hl; clear ho hl) | (go_at_call 11; refine (free_any HL8.out).mono ?_; rw [HF.out]; rintro e w9 ⟨rfl, rfl⟩))
        go_ret
        exact ⟨rfl, HB8.out⟩
  · have t1 : decide (300 < (l.length : Int) + (l2.length : Int)) = true := decide_eq_true (by omega)
    go_enter Try.func5, Try.ntmps5
    go_wp2_with (first | (go_at_call 8; refine (awake_true _).mono ?_; rintro e w1 ⟨rfl, hb⟩; (first | (have n_ := Aside0.mk (below_step HB.out hb); clear HB; have HB := n_; clear n_) | have HB := Aside0.mk hb); clear hb))
    go_ret
    exact ⟨rfl, HB.out⟩
end Go.Proofs.Ytaphooibfgnkkaa.Hand
