/- The walk of FixBack. -/
import Derived.Test.YtnidooobefoahaaOps
namespace Go.Proofs.Ytnidooobefoahaa.Hand
open Go.RowKit Go.Proofs.Ytnidooobefoahaa.Sp Go.Proofs.Ytnidooobefoahaa.Pure Go.Proofs.Ytnidooobefoahaa.OpenOp Go.Proofs.YtnidooobefoahaaW.PrintWords Go.Proofs.YtnidooobefoahaaW.PrintLast Go.Proofs.YtnidooobefoahaaW.PrintMore
set_option linter.unusedVariables false
set_option linter.unusedSimpArgs false

theorem numOf_2 (n : Int) : numOf (bigE n 2) = n % 65536 := by
  simp only [bigE, numOf, List.nil_append, List.cons_append, List.foldl_cons, List.foldl_nil]
  omega
theorem numOf_4 (n : Int) : numOf (bigE n 4) = n % 4294967296 := by
  simp only [bigE, numOf, List.nil_append, List.cons_append, List.foldl_cons, List.foldl_nil]
  omega
theorem rBytes_at (a b c : List Int) (m : Nat) (hb : b.length = m) : rBytes (a ++ b ++ c) ⟨a.length, 0⟩ m = (b, ⟨a.length + m, 0⟩) := by
  unfold rBytes
  rw [if_neg (by simp), if_neg (by simp only [List.length_append]; omega)]
  simp only
  rw [List.append_assoc, List.take_append, List.drop_append]
  simp [hb]
section
variable (X Y : Int) (s : ByteArray)
def backL : List Int := ([] ++ bigE X 2 ++ bigE Y 4) ++ textE s
theorem backL_len (hs : s.size ≤ 65535) : (backL X Y s).length = 8 + s.size := by
  unfold backL textE
  simp only [List.length_append, bigE_length, bytesOf_len, ByteArray.size_extract, List.length_nil]
  omega
theorem textE_small (hs : s.size ≤ 65535) : textE s = bigE (s.size : Int) 2 ++ bytesOf s := by
  have e : s.extract 0 65535 = s := by
    apply data_inj
    rw [ByteArray.data_extract, Array.toList_extract, List.extract_eq_take_drop, List.drop_zero, Nat.sub_zero]
    exact List.take_of_length_le (by rw [Array.length_toList]; exact hs)
  unfold textE
  rw [e]
theorem back_16 (hX : 0 ≤ X ∧ X ≤ 65535) : rNum (backL X Y s) ⟨0, 0⟩ 2 = (X, ⟨2, 0⟩) := by
  have h := rBytes_at [] (bigE X 2) (bigE Y 4 ++ textE s) 2 (bigE_length 2 X)
  unfold rNum
  have e : backL X Y s = [] ++ bigE X 2 ++ (bigE Y 4 ++ textE s) := by unfold backL; simp only [List.append_assoc]
  rw [e]
  rw [List.length_nil] at h
  rw [h, numOf_2]
  congr 1; omega
theorem back_32 (hY : 0 ≤ Y ∧ Y ≤ 4294967295) : rNum (backL X Y s) ⟨2, 0⟩ 4 = (Y, ⟨6, 0⟩) := by
  have h := rBytes_at ([] ++ bigE X 2) (bigE Y 4) (textE s) 4 (bigE_length 4 Y)
  rw [List.nil_append, bigE_length] at h
  unfold rNum
  have e : backL X Y s = bigE X 2 ++ bigE Y 4 ++ textE s := by unfold backL; rw [List.nil_append]
  rw [e, h, numOf_4]
  congr 1; omega
theorem back_text (hs : s.size ≤ 65535) : rText (backL X Y s) ⟨6, 0⟩ (s.size : Int) = (bytesOf s, ⟨8 + s.size, 0⟩) := by
  have e : backL X Y s = (bigE X 2 ++ bigE Y 4) ++ bigE (s.size : Int) 2 ++ bytesOf s := by unfold backL; rw [List.nil_append, textE_small s hs, ← List.append_assoc]
  have h := rBytes_at (bigE X 2 ++ bigE Y 4) (bigE (s.size : Int) 2) (bytesOf s) 2 (bigE_length 2 _)
  rw [List.length_append, bigE_length, bigE_length, ← e] at h
  have e2 : backL X Y s = (bigE X 2 ++ bigE Y 4 ++ bigE (s.size : Int) 2) ++ bytesOf s ++ [] := by rw [e, List.append_nil]
  have h2 := rBytes_at (bigE X 2 ++ bigE Y 4 ++ bigE (s.size : Int) 2) (bytesOf s) [] s.size (bytesOf_len s)
  rw [List.length_append, List.length_append, bigE_length, bigE_length, bigE_length, ← e2] at h2
  have hn : rNum (backL X Y s) ⟨6, 0⟩ 2 = ((s.size : Int), ⟨8, 0⟩) := by
    unfold rNum; rw [show (6 : Nat) = 2 + 4 from rfl, h, numOf_2]; congr 1; omega
  unfold rText
  rw [hn]
  simp only
  rw [if_neg (by simp), Int.toNat_natCast]
  exact h2
theorem rBytes_err (l : List Int) (s : RS) (he : s.e ≠ 0) (m : Nat) : rBytes l s m = ([], s) := by unfold rBytes; rw [if_pos he]
theorem rNum_err (l : List Int) (s : RS) (he : s.e ≠ 0) (m : Nat) : rNum l s m = (0, s) := by unfold rNum; rw [rBytes_err l s he]; rfl
theorem rText_err (l : List Int) (s : RS) (he : s.e ≠ 0) (n : Int) : rText l s n = ([], s) := by unfold rText; rw [rNum_err l s he]; simp only; rw [if_neg (fun h => he h.1), rBytes_err l s he]
theorem rBytes_short (l : List Int) (p m : Nat) (h : l.length - p < m) : rBytes l ⟨p, 0⟩ m = ([], ⟨p, 2⟩) := by unfold rBytes; rw [if_neg (by simp), if_pos h]
theorem rBytes_cut (l : List Int) (k p m : Nat) (h : p + m ≤ k) (hk : k ≤ l.length) : rBytes (l.take k) ⟨p, 0⟩ m = rBytes l ⟨p, 0⟩ m := by
  unfold rBytes
  rw [if_neg (show ¬ ((⟨p, 0⟩ : RS).e ≠ 0) by simp), if_neg (show ¬ ((l.take k).length - p < m) by rw [List.length_take]; omega), if_neg (show ¬ ((⟨p, 0⟩ : RS).e ≠ 0) by simp), if_neg (show ¬ (l.length - p < m) by omega)]
  simp only
  rw [List.take_take, Nat.min_eq_left h]
theorem rNum_short (l : List Int) (p m : Nat) (h : l.length - p < m) : rNum l ⟨p, 0⟩ m = (0, ⟨p, 2⟩) := by unfold rNum; rw [rBytes_short l p m h]; rfl
theorem rNum_cut (l : List Int) (k p m : Nat) (h : p + m ≤ k) (hk : k ≤ l.length) : rNum (l.take k) ⟨p, 0⟩ m = rNum l ⟨p, 0⟩ m := by unfold rNum; rw [rBytes_cut l k p m h hk]
/-- Cut off anywhere, the third taking has ended in ErrShort. -/
theorem back_cut (hX : 0 ≤ X ∧ X ≤ 65535) (hY : 0 ≤ Y ∧ Y ≤ 4294967295) (hs : s.size ≤ 65535) (k : Nat) (hk : k < 8 + s.size) :
    (rText ((backL X Y s).take k) (rNum ((backL X Y s).take k) (rNum ((backL X Y s).take k) ⟨0, 0⟩ 2).2 4).2 (s.size : Int)).2.e = 2 := by
  have hlen := backL_len X Y s hs
  have hl : ((backL X Y s).take k).length = k := by rw [List.length_take]; omega
  by_cases h1 : k < 2
  · rw [rNum_short _ 0 2 (by omega), rNum_err _ ⟨0, 2⟩ (by simp), rText_err _ ⟨0, 2⟩ (by simp)]
  · rw [rNum_cut _ k 0 2 (by omega) (by omega), back_16 X Y s hX]
    simp only
    by_cases h2 : k < 6
    · rw [rNum_short _ 2 4 (by omega), rText_err _ ⟨2, 2⟩ (by simp)]
    · rw [rNum_cut _ k 2 4 (by omega) (by omega), back_32 X Y s hY]
      simp only
      by_cases h3 : k < 8
      · unfold rText
        rw [rNum_short _ 6 2 (by omega)]
        simp only
        rw [if_neg (by simp), rBytes_err _ ⟨6, 2⟩ (by simp)]
      · unfold rText
        have hn : rNum (backL X Y s) ⟨6, 0⟩ 2 = ((s.size : Int), ⟨8, 0⟩) := by
          have e : backL X Y s = (bigE X 2 ++ bigE Y 4) ++ bigE (s.size : Int) 2 ++ bytesOf s := by unfold backL; rw [List.nil_append, textE_small s hs, ← List.append_assoc]
          have h := rBytes_at (bigE X 2 ++ bigE Y 4) (bigE (s.size : Int) 2) (bytesOf s) 2 (bigE_length 2 _)
          rw [List.length_append, bigE_length, bigE_length, ← e] at h
          unfold rNum; rw [show (6 : Nat) = 2 + 4 from rfl, h, numOf_2]; congr 1; omega
        rw [rNum_cut _ k 6 2 (by omega) (by omega), hn]
        simp only
        rw [if_neg (by simp), Int.toNat_natCast, rBytes_short _ 8 s.size (by omega)]
end
theorem and_low (a : Int) (h0 : 0 ≤ a) (h1 : a ≤ 4294967295) : bits .and .u32 a 65535 = a % 65536 := by
  obtain ⟨a, rfl⟩ := Int.eq_ofNat_of_zero_le h0
  rw [show (65535 : Int) = ((65535 : Nat) : Int) from rfl, u32_and_nat a 65535 (by omega) (by omega), show (65535 : Nat) = 2 ^ 16 - 1 from rfl, Nat.and_two_pow_sub_one_eq_mod]
  omega
theorem Read_n {w : World} {A0 : Option Addr} {c0 n : Nat} {l : List Int} (hn : l.length = n) (hr0 : (Kd.int .u8).C w A0 l.length l) (hc0 : n ≤ c0) (hl : n < 140737488355328) (hb : isBy l) :
    Calls Try.prog 16 #[.slice A0 n c0] w (ReadOut w l) := by
  subst hn; exact Read_any hr0 hc0 hl hb
set_option maxHeartbeats 2000000 in
set_option maxRecDepth 100000 in
theorem fixBack_walk (a b : Int) (s : ByteArray) (cut : Int) (w : World) (ha : 0 ≤ a ∧ a ≤ 4294967295) (hb : 0 ≤ b ∧ b ≤ 4294967295) (hc : 0 ≤ cut ∧ cut ≤ 18446744073709551615) :
    Calls Try.prog 6 #[.int .u32 a, .int .u32 b, .string s, .int .u64 cut] w fun e w' => e = .returned (.bool true) ∧ Below w.heap.size w w' := by
  by_cases hs : s.size ≤ 65535
  · have t1 : decide (65535 < (s.size : Int)) = false := decide_eq_false (by omega)
    have hand := and_low a ha.1 ha.2
    obtain ⟨X, hX⟩ : ∃ X, X = a % 65536 := ⟨_, rfl⟩
    have hX2 : 0 ≤ X ∧ X ≤ 65535 := by omega
    rw [← hX] at hand
    clear hX
    have HB16 := back_16 X b s hX2
    have HB32 := back_32 X b s hb
    have HBT := back_text X b s hs
    have HBC := Aside0.mk (fun k => back_cut X b s hX2 hb hs k)
    have hlen := backL_len X b s hs
    obtain ⟨L1, hL1⟩ : ∃ L1, L1 = ([] : List Int) ++ bigE X 2 := ⟨_, rfl⟩
    obtain ⟨L2, hL2⟩ : ∃ L2, L2 = L1 ++ bigE b 4 := ⟨_, rfl⟩
    obtain ⟨L, hL⟩ : ∃ L, L = L2 ++ textE s := ⟨_, rfl⟩
    have hLb : backL X b s = L := by rw [hL, hL2, hL1]; rfl
    rw [hLb] at HB16 HB32 HBT hlen HBC
    rw [← hlen] at HBT HBC
    have hl1 : L1.length = 2 := by rw [hL1, List.nil_append, bigE_length]
    have hl2 : L2.length = 6 := by rw [hL2, List.length_append, hl1, bigE_length]
    have hLby : ∀ x ∈ L, 0 ≤ x ∧ x ≤ 255 := by
      intro x hx
      rw [hL, hL2, hL1, List.nil_append, List.mem_append, List.mem_append] at hx
      rcases hx with (hx | hx) | hx
      · exact bigE_by _ _ x hx
      · exact bigE_by _ _ x hx
      · exact textE_by _ x hx
    have P1 : Aside0 (∀ W, Calls Try.prog 11 #[.slice none 0 0, .int .i64 X] W (PutOut W L1)) := ⟨fun W => by rw [hL1]; exact Put16_any (w := W) (A0 := none) (c0 := 0) (l := []) X (Kd.C_nil _ _) (by simp) (by simp)⟩
    have P2 : Aside0 (∀ (W : World) (A : Option Addr) (c : Nat), (Kd.int .u8).C W A L1.length L1 → L1.length ≤ c → Calls Try.prog 12 #[.slice A L1.length c, .int .i64 b] W (PutOut W L2)) := ⟨fun W A c h1 h2 => by rw [hL2]; exact Put32_any b h1 h2 (by omega)⟩
    have P3 : Aside0 (∀ (W : World) (A : Option Addr) (c : Nat), (Kd.int .u8).C W A L2.length L2 → L2.length ≤ c → Calls Try.prog 14 #[.slice A L2.length c, .string s] W (PutOut W L)) := ⟨fun W A c h1 h2 => by rw [hL]; exact PutText_any s (by omega) h1 h2 (by omega)⟩
    have R1 : Aside0 (∀ (W : World) (bs g : Nat), Rd W bs g L ⟨0, 0⟩ → Calls Try.prog 19 #[.pointer (some ⟨g, 0, none⟩)] W (NumOut W bs g L (X, ⟨2, 0⟩))) := ⟨fun W bs g h => by rw [← HB16]; exact Take16_any h⟩
    have R2 : Aside0 (∀ (W : World) (bs g : Nat), Rd W bs g L ⟨2, 0⟩ → Calls Try.prog 20 #[.pointer (some ⟨g, 0, none⟩)] W (NumOut W bs g L (b, ⟨6, 0⟩))) := ⟨fun W bs g h => by rw [← HB32]; exact Take32_any h⟩
    have R3 : Aside0 (∀ (W : World) (bs g : Nat), Rd W bs g L ⟨6, 0⟩ → Calls Try.prog 21 #[.pointer (some ⟨g, 0, none⟩), .int .i64 (s.size : Int)] W (TextOut W bs g L (bytesOf s, ⟨L.length, 0⟩))) := ⟨fun W bs g h => by rw [← HBT]; exact Text_any h _⟩
    have hl3 : L.length ≤ 65543 := by omega
    have hl4 : 8 ≤ L.length := by omega
    have hn1 : ((L.length : Int) != 8 + (s.size : Int)) = false := by rw [bne_eq_false_iff_eq]; omega
    have hn2 : ((L.length : Int) != (L.length : Int)) = false := by simp
    have hn3 : (X != X) = false := by simp
    have hn4 : (b != b) = false := by simp
    have hstr : strOfNums (bytesOf s) = s := str_bytes s
    have HLL := Aside0.mk hLby
    obtain ⟨k, hk⟩ : ∃ k : Nat, cut % (L.length : Int) = (k : Int) := ⟨(cut % (L.length : Int)).toNat, by have := Int.emod_nonneg cut (show (L.length : Int) ≠ 0 by omega); omega⟩
    have hkl : k < L.length := by have := Int.emod_lt_of_pos cut (show (0 : Int) < (L.length : Int) by omega); omega
    obtain ⟨M, hM⟩ : ∃ M, M = L.take k := ⟨_, rfl⟩
    have HMl : Aside0 (M.length = k) := ⟨by rw [hM, List.length_take]; omega⟩
    have HMb : Aside0 (isBy M) := ⟨fun x hx => hLby x (by rw [hM] at hx; exact List.mem_of_mem_take hx)⟩
    have HMc : Aside0 (∀ (W : World) (A : Option Addr), (Kd.int .u8).C W A L.length L → (Kd.int .u8).C W A M.length M) := ⟨fun W A h => by rw [hM]; exact Kd.C_take h (by omega)⟩
    have HE : Aside0 ((rText M (rNum M (rNum M ⟨0, 0⟩ 2).2 4).2 (s.size : Int)).2.e = 2) := ⟨by rw [hM]; exact HBC.out k (by omega)⟩
    clear hM HBC
    clear HB16 HB32 HBT hlen hL1 hL2 hL hLb hl1 hl2 hLby
    go_enter Try.func6, Try.ntmps6
    go_wp2_with (first | (go_at_call 10; refine (awake_true _).mono ?_; rintro e w1 ⟨rfl, hb⟩; have HB := Aside0.mk hb; clear hb) | (go_at_call 11; refine (P1.out _).mono ?_; rintro e w2 ⟨A, c, rfl, hR, hC, hle, hb⟩; have HC1 := Aside0.mk hC; have HE1 := Aside0.mk hle; have HB2 := Aside0.mk (below_step HB.out hb); clear hR hC hle hb) | (go_at_call 12; refine (P2.out _ _ _ HC1.out HE1.out).mono ?_; rintro e w3 ⟨A, c, rfl, hR, hC, hle, hb⟩; have HC2 := Aside0.mk hC; have HE2 := Aside0.mk hle; have HB3 := Aside0.mk (below_step HB2.out hb); clear hR hC hle hb) | (go_at_call 14; refine (P3.out _ _ _ HC2.out HE2.out).mono ?_; rintro e w4 ⟨A, c, rfl, hR, hC, hle, hb⟩; have HC3 := Aside0.mk hC; have HE3 := Aside0.mk hle; have hkc : k ≤ c := (by omega); have HB4 := Aside0.mk (below_step HB3.out hb); clear hR hC hb) | (go_at_call 16; have _q := HO8; refine (Read_n HMl.out (HMc.out _ _ (Kd.C_keep (0 : Int) HC5.out HO8.out.keep (fun ad e hp => by subst e; have h1 := Kd.C_lt HC3.out hp (by decide); have h2 := HR.out.base; exact Nat.ne_of_lt (Nat.lt_of_lt_of_le h1 h2)))) hkc (by omega) HMb.out).mono ?_; rintro e w10 ⟨g2, rfl, hb, hr⟩; have HQ0 := Aside0.mk hr; have HB10 := Aside0.mk (below_step (HO8.out.below HB5.out (Nat.le_trans HS5.out HR.out.base) HB5.out.size) hb); have HS10 := Aside0.mk (HO8.out.below HB5.out (Nat.le_trans HS5.out HR.out.base) HB5.out.size).size; clear hb hr) | (go_at_call 16; refine (Read_any HC3.out HE3.out (by omega) HLL.out).mono ?_; rintro e w5 ⟨g, rfl, hb, hr⟩; have HB5 := Aside0.mk (below_step HB4.out hb); have HR := Aside0.mk hr; have HC5 := Aside0.mk (Kd.C_below HC3.out hb); have HS5 := Aside0.mk HB4.out.size; clear hb hr) | (go_at_call 19; refine (Take16_any HQ0.out).mono ?_; rintro e w11 ⟨rfl, ho, hr⟩; have HP1 := Aside0.mk ho; have HQ1 := Aside0.mk hr; clear ho hr) | (go_at_call 19; refine (R1.out _ _ _ HR.out).mono ?_; rintro e w6 ⟨rfl, ho, hr⟩; have HO6 := Aside0.mk ho; have HR6 := Aside0.mk hr; clear ho hr) | (go_at_call 20; refine (Take32_any HQ1.out).mono ?_; rintro e w12 ⟨rfl, ho, hr⟩; have HP2 := Aside0.mk (HP1.out.trans ho); have HQ2 := Aside0.mk hr; clear ho hr) | (go_at_call 20; refine (R2.out _ _ _ HR6.out).mono ?_; rintro e w7 ⟨rfl, ho, hr⟩; have HO7 := Aside0.mk (HO6.out.trans ho); have HR7 := Aside0.mk hr; clear ho hr) | (go_at_call 21; refine (Text_any HQ2.out _).mono ?_; rintro e w13 ⟨rfl, ho, hr⟩; have HP3 := Aside0.mk (HP2.out.trans ho); have HQ3 := Aside0.mk hr; clear ho hr) | (go_at_call 21; refine (R3.out _ _ _ HR7.out).mono ?_; rintro e w8 ⟨rfl, ho, hr⟩; have HO8 := Aside0.mk (HO7.out.trans ho); have HR8 := Aside0.mk hr; clear ho hr) | (go_at_call 22; refine (Err_rd HQ3.out).mono ?_; rw [HE.out]; rintro e w14 ⟨rfl, rfl⟩) | (go_at_call 22; refine (Err_rd HR8.out).mono ?_; rintro e w9 ⟨rfl, rfl⟩) | (go_at_call 23; refine (At_rd HR8.out).mono ?_; rintro e w9 ⟨rfl, rfl⟩))
    go_ret
    exact ⟨rfl, HP3.out.below HB10.out (Nat.le_trans HS10.out HQ0.out.base) HB10.out.size⟩
  · have t1 : decide (65535 < (s.size : Int)) = true := decide_eq_true (by omega)
    go_enter Try.func6, Try.ntmps6
    go_wp2_with (first | (go_at_call 10; refine (awake_true _).mono ?_; rintro e w1 ⟨rfl, hb⟩; (first | (have n_ := Aside0.mk (below_step HB.out hb); clear HB; have HB := n_; clear n_) | have HB := Aside0.mk hb); clear hb))
    go_ret
    exact ⟨rfl, HB.out⟩
theorem u32_rg {v : Int} (h : (Lit.int .u32 v).wf = true) : 0 ≤ v ∧ v ≤ 4294967295 := by
  simp [Lit.wf, IntKind.min, IntKind.max, IntKind.signed, IntKind.bits] at h
  omega
theorem u64_rg {v : Int} (h : (Lit.int .u64 v).wf = true) : 0 ≤ v ∧ v ≤ 18446744073709551615 := by
  simp [Lit.wf, IntKind.min, IntKind.max, IntKind.signed, IntKind.bits] at h
  omega
end Go.Proofs.Ytnidooobefoahaa.Hand
