/- The reader of package fix: numbers and texts that are taken, and the rest that must be zero. -/
import Derived.Test.YtnidooobefoahaaReader
import Derived.Laws.BitsAllLaws
namespace Go.Proofs.Ytnidooobefoahaa.Hand
open Go.RowKit Go.Proofs.YtnidooobefoahaaW.PrintWords Go.Proofs.YtnidooobefoahaaW.PrintLast Go.Proofs.YtnidooobefoahaaW.PrintMore
set_option linter.unusedVariables false
set_option linter.unusedSimpArgs false

theorem numOf_snoc (x : List Int) (c : Int) : numOf (x ++ [c]) = numOf x * 256 + c := by simp [numOf]
theorem numOf_range : ∀ (n : Nat) (x : List Int), isBy x → x.length = n → 0 ≤ numOf x ∧ numOf x < 256 ^ n := by
  intro n
  induction n with
  | zero => intro x _ hl; obtain rfl := List.eq_nil_of_length_eq_zero hl; simp [numOf]
  | succ n ih =>
    intro x hb hl
    have hne : x ≠ [] := by rintro rfl; simp at hl
    have e := List.dropLast_concat_getLast hne
    have h1 := ih x.dropLast (fun y hy => hb y (List.dropLast_subset _ hy)) (by simp [hl])
    have h2 := hb _ (List.getLast_mem hne)
    rw [← e, numOf_snoc, Int.pow_succ]
    generalize (256 : Int) ^ n = q at *
    omega
theorem numOf_small (x : List Int) (hb : isBy x) (hl : x.length ≤ 4) : 0 ≤ numOf x ∧ numOf x ≤ 4294967295 := by
  have h := numOf_range x.length x hb rfl
  match hx : x.length, hl with
  | 0, _ => rw [hx] at h; omega
  | 1, _ => rw [hx] at h; omega
  | 2, _ => rw [hx] at h; omega
  | 3, _ => rw [hx] at h; omega
  | 4, _ => rw [hx] at h; omega
theorem rBytes_by {l : List Int} (hb : isBy l) (s : RS) (m : Nat) : isBy (rBytes l s m).1 ∧ (rBytes l s m).1.length ≤ m := by
  unfold rBytes
  split
  · exact ⟨fun x hx => by simp at hx, by simp⟩
  · split
    · exact ⟨fun x hx => by simp at hx, by simp⟩
    · refine ⟨fun x hx => hb x (List.mem_of_mem_take (List.mem_of_mem_drop hx)), ?_⟩
      simp only [List.length_drop, List.length_take]
      omega
theorem take_snocI (x : List Int) (k : Nat) (h : k < x.length) : x.take (k + 1) = x.take k ++ [x.getD k 0] := by
  rw [List.take_succ_eq_append_getElem h]; simp [List.getD_eq_getElem?_getD, List.getElem?_eq_getElem h]

theorem or_low (a b : Int) (h0 : 0 ≤ a) (h1 : a < 1099511627776) (h2 : 0 ≤ b) (h3 : b ≤ 255) : bits .or .i64 (wrap64 (a * 256)) (wrap64 b) = a * 256 + b := by
  obtain ⟨a, rfl⟩ := Int.eq_ofNat_of_zero_le h0
  obtain ⟨b, rfl⟩ := Int.eq_ofNat_of_zero_le h2
  have e1 : wrap64 ((a : Int) * 256) = ((a * 256 : Nat) : Int) := by unfold wrap64; omega
  have e2 : wrap64 (b : Int) = (b : Int) := by unfold wrap64; omega
  rw [e1, e2]
  show IntKind.i64.wrap ((BitVec.ofInt 64 ((a * 256 : Nat) : Int) ||| BitVec.ofInt 64 (b : Int)).toNat : Int) = _
  rw [BitVec.toNat_or, BitVec.ofInt_natCast, BitVec.ofInt_natCast, BitVec.toNat_ofNat, BitVec.toNat_ofNat, Nat.mod_eq_of_lt (by omega), Nat.mod_eq_of_lt (by omega), nat_join8 _ _ (by omega) (by omega), i64_w]
  unfold wrap64; omega

theorem Err_rd {w : World} {bs g : Nat} {l : List Int} {s : RS} (h : Rd w bs g l s) :
    Calls Try.prog 22 #[.pointer (some ⟨g, 0, none⟩)] w fun x w' => x = .returned (.int .i64 s.e) ∧ w' = w := by
  obtain ⟨A, c, h1, _⟩ := h.blk
  exact Err_calls h1
theorem At_rd {w : World} {bs g : Nat} {l : List Int} {s : RS} (h : Rd w bs g l s) :
    Calls Try.prog 23 #[.pointer (some ⟨g, 0, none⟩)] w fun x w' => x = .returned (.int .i64 (s.p : Int)) ∧ w' = w := by
  obtain ⟨A, c, h1, _⟩ := h.blk
  exact At_calls h1
theorem fails_rd {w : World} {bs g : Nat} {l : List Int} {p : Nat} (x : Int) (h : Rd w bs g l ⟨p, 0⟩) :
    Calls Try.prog 31 #[.pointer (some ⟨g, 0, none⟩), .int .i64 x] w fun y w' => y = .returned (.tuple #[]) ∧ Only w w' g ∧ Rd w' bs g l ⟨p, x⟩ := by
  obtain ⟨⟨A, c, h1, h2, h3, h4⟩, r1, r2, r3, r4⟩ := h
  refine (fails_first x h1).mono ?_
  rintro y w' ⟨rfl, rfl⟩
  have ho : Only w (w.setCell ⟨g, 2, none⟩ (.int .i64 x)) g := (Only.refl _ _).set 2 _
  exact ⟨rfl, ho, ⟨⟨A, c, blk_put (show w.heap[g]? = _ from h1) 2 _ rfl, h2, Kd.C_keep (0 : Int) h3 ho.keep (RowIn.ne h4), h4⟩, r1, r2, r3, r4⟩⟩

def NumOut (w : World) (bs g : Nat) (l : List Int) (r : Int × RS) (x : Ending) (w' : World) : Prop := x = .returned (.int .i64 r.1) ∧ Only w w' g ∧ Rd w' bs g l r.2
theorem number_any {w : World} {bs g : Nat} {l : List Int} {s : RS} (h : Rd w bs g l s) (m : Nat) (hm : m ≤ 4) :
    Calls Try.prog 30 #[.pointer (some ⟨g, 0, none⟩), .int .i64 (m : Int)] w (NumOut w bs g l (rNum l s m)) := by
  have hB := rBytes_by h.isb s m
  have hc := bytes_any h m (by omega)
  unfold rNum
  generalize rBytes l s m = r at hB hc ⊢
  obtain ⟨x, s'⟩ := r
  obtain ⟨hb, hl⟩ := hB
  simp only at hb hl hc ⊢
  have HL : Aside0 (x.length ≤ 4) := ⟨by omega⟩
  have HB : Aside0 (isBy x) := ⟨hb⟩
  have HC := Aside0.mk hc
  clear hb hl hc h
  go_enter Try.func30, Try.ntmps30
  go_wp2_with (go_at_call 32; refine HC.out.mono ?_; rintro e w1 ⟨A, c, rfl, hC, hle, ho, hr⟩; have HO := Aside0.mk ho; have HR := Aside0.mk hr; have HCC := Aside0.mk hC; clear ho hr hC hle)
  go_loop [5, 7, 12] (fun n _ i => ∃ k : Nat, k ≤ x.length ∧ i = .int .i64 k ∧ n = .int .i64 (numOf (x.take k))) (fun _ _ i => x.length - (intOf i).toNat)
  case atStart => exact ⟨0, Nat.zero_le _, rfl, rfl⟩
  case round =>
    obtain ⟨k, hk, rfl, rfl⟩ := hrel
    by_cases hlt : k < x.length
    · obtain ⟨ad, rfl, hcell⟩ := (Kd.reads_of_C (enc := Value.int .u8) (d := (0 : Int)) (h1 := fun _ => rfl) HCC.out).2.2 (by omega)
      have hk' := hcell k hlt
      have hx : 0 ≤ x.getD k 0 ∧ x.getD k 0 ≤ 255 := HB.out _ (by rw [List.getD_eq_getElem?_getD, List.getElem?_eq_getElem hlt]; exact List.getElem_mem hlt)
      clear hcell
      go_wp2
      have h1 := numOf_small (x.take k) (fun y hy => HB.out y (List.mem_of_mem_take hy)) (by rw [List.length_take]; have := HL.out; omega)
      have h2 := take_snocI x k hlt
      have e : x[k] = x.getD k 0 := by simp [List.getD_eq_getElem?_getD, List.getElem?_eq_getElem hlt]
      have hl4 := HL.out
      refine ⟨⟨k + 1, by omega, ?_, ?_⟩, ?_⟩
      · rw [show wrap64 ((k : Int) + 1) = ((k + 1 : Nat) : Int) by unfold wrap64; omega]
      · rw [h2, numOf_snoc, e, or_low _ _ (by omega) (by omega) (by omega) (by omega)]
      · rw [show wrap64 ((k : Int) + 1) = ((k + 1 : Nat) : Int) by unfold wrap64; omega]; simp [intOf]; omega
    · have e : x.take k = x := List.take_of_length_le (by omega)
      go_wp2
      go_ret
      exact ⟨rfl, HO.out, HR.out⟩
theorem Take8_any {w : World} {bs g : Nat} {l : List Int} {s : RS} (h : Rd w bs g l s) :
    Calls Try.prog 17 #[.pointer (some ⟨g, 0, none⟩)] w (NumOut w bs g l (rNum l s 1)) := by
  have HC := Aside0.mk (number_any h 1 (by omega))
  generalize rNum l s 1 = r at HC ⊢
  clear h
  go_enter Try.func17, Try.ntmps17
  go_wp2_with (go_at_call 30; refine HC.out.mono ?_; rintro e w1 ⟨rfl, ho, hr⟩; have HO := Aside0.mk ho; have HR := Aside0.mk hr; clear ho hr)
  go_ret
  exact ⟨rfl, HO.out, HR.out⟩
theorem Take16_any {w : World} {bs g : Nat} {l : List Int} {s : RS} (h : Rd w bs g l s) :
    Calls Try.prog 19 #[.pointer (some ⟨g, 0, none⟩)] w (NumOut w bs g l (rNum l s 2)) := by
  have HC := Aside0.mk (number_any h 2 (by omega))
  generalize rNum l s 2 = r at HC ⊢
  clear h
  go_enter Try.func19, Try.ntmps19
  go_wp2_with (go_at_call 30; refine HC.out.mono ?_; rintro e w1 ⟨rfl, ho, hr⟩; have HO := Aside0.mk ho; have HR := Aside0.mk hr; clear ho hr)
  go_ret
  exact ⟨rfl, HO.out, HR.out⟩
theorem Take32_any {w : World} {bs g : Nat} {l : List Int} {s : RS} (h : Rd w bs g l s) :
    Calls Try.prog 20 #[.pointer (some ⟨g, 0, none⟩)] w (NumOut w bs g l (rNum l s 4)) := by
  have HC := Aside0.mk (number_any h 4 (by omega))
  generalize rNum l s 4 = r at HC ⊢
  clear h
  go_enter Try.func20, Try.ntmps20
  go_wp2_with (go_at_call 30; refine HC.out.mono ?_; rintro e w1 ⟨rfl, ho, hr⟩; have HO := Aside0.mk ho; have HR := Aside0.mk hr; clear ho hr)
  go_ret
  exact ⟨rfl, HO.out, HR.out⟩
def rText (l : List Int) (s : RS) (most : Int) : List Int × RS :=
  rBytes l (if (rNum l s 2).2.e = 0 ∧ most < (rNum l s 2).1 then ⟨(rNum l s 2).2.p, 4⟩ else (rNum l s 2).2) (rNum l s 2).1.toNat
def TextOut (w : World) (bs g : Nat) (l : List Int) (r : List Int × RS) (x : Ending) (w' : World) : Prop := x = .returned (.string (strOfNums r.1)) ∧ Only w w' g ∧ Rd w' bs g l r.2
theorem rNum_range {l : List Int} (hb : isBy l) (s : RS) : 0 ≤ (rNum l s 2).1 ∧ (rNum l s 2).1 ≤ 65535 := by
  have h := rBytes_by hb s 2
  unfold rNum
  have h2 := numOf_range (rBytes l s 2).1.length _ h.1 rfl
  simp only
  match hx : (rBytes l s 2).1.length, h.2 with
  | 0, _ => rw [hx] at h2; omega
  | 1, _ => rw [hx] at h2; omega
  | 2, _ => rw [hx] at h2; omega
theorem Text_any {w : World} {bs g : Nat} {l : List Int} {s : RS} (h : Rd w bs g l s) (most : Int) :
    Calls Try.prog 21 #[.pointer (some ⟨g, 0, none⟩), .int .i64 most] w (TextOut w bs g l (rText l s most)) := by
  have hr := rNum_range h.isb s
  have HC := Aside0.mk (Take16_any h)
  unfold rText
  generalize rNum l s 2 = r at HC hr ⊢
  obtain ⟨n, p, e⟩ := r
  simp only at hr HC ⊢
  obtain ⟨n, rfl⟩ := Int.eq_ofNat_of_zero_le hr.1
  have hn : n ≤ 65535 := by omega
  clear h hr
  rw [Int.toNat_natCast]
  have hs : ∀ (W : World) (A : Option Addr) (c : Nat) (x : List Int), (Kd.int .u8).C W A x.length x → (convert 23 9 (.slice A x.length c)).run Try.prog W = .ok (.string (strOfNums x)) W := fun W A c x hC => Kd.C_string Try.underlying23 Try.underlying5 Try.underlying9 hC
  have HS := Aside0.mk hs
  clear hs
  by_cases he : e = 0
  · subst he
    have hz : ((0 : Int) == 0) = true := rfl
    by_cases hm : most < (n : Int)
    · rw [if_pos ⟨rfl, hm⟩]
      have hm1 := decide_eq_true hm
      go_enter Try.func21, Try.ntmps21
      go_wp2_with (first | (go_at_call 19; refine HC.out.mono ?_; rintro e w1 ⟨rfl, ho, hr⟩; have HO := Aside0.mk ho; have HR := Aside0.mk hr; clear ho hr) | (go_at_call 22; refine (Err_rd HR.out).mono ?_; rintro e w2 ⟨rfl, rfl⟩) | (go_at_call 31; refine (fails_rd 4 HR.out).mono ?_; rintro e w3 ⟨rfl, ho, hr⟩; have HO2 := Aside0.mk ho; have HR2 := Aside0.mk hr; clear ho hr) | (go_at_call 32; refine (bytes_any HR2.out n (by omega)).mono ?_; rintro e w4 ⟨A, c, rfl, hC, hle, ho, hr⟩; have HO3 := Aside0.mk ho; have HR3 := Aside0.mk hr; have hs := HS.out _ _ c _ hC; clear ho hr hC hle))
      go_ret
      exact ⟨rfl, (HO.out.trans HO2.out).trans HO3.out, HR3.out⟩
    · rw [if_neg (by simpa using hm)]
      have hm1 := decide_eq_false hm
      go_enter Try.func21, Try.ntmps21
      go_wp2_with (first | (go_at_call 19; refine HC.out.mono ?_; rintro e w1 ⟨rfl, ho, hr⟩; have HO := Aside0.mk ho; have HR := Aside0.mk hr; clear ho hr) | (go_at_call 22; refine (Err_rd HR.out).mono ?_; rintro e w2 ⟨rfl, rfl⟩) | (go_at_call 32; refine (bytes_any HR.out n (by omega)).mono ?_; rintro e w4 ⟨A, c, rfl, hC, hle, ho, hr⟩; have HO3 := Aside0.mk ho; have HR3 := Aside0.mk hr; have hs := HS.out _ _ c _ hC; clear ho hr hC hle))
      go_ret
      exact ⟨rfl, HO.out.trans HO3.out, HR3.out⟩
  · rw [if_neg (by simp [he])]
    have hm1 : (e == 0) = false := beq_eq_false_iff_ne.2 he
    go_enter Try.func21, Try.ntmps21
    go_wp2_with (first | (go_at_call 19; refine HC.out.mono ?_; rintro e w1 ⟨rfl, ho, hr⟩; have HO := Aside0.mk ho; have HR := Aside0.mk hr; clear ho hr) | (go_at_call 22; refine (Err_rd HR.out).mono ?_; rintro e w2 ⟨rfl, rfl⟩) | (go_at_call 32; refine (bytes_any HR.out n (by omega)).mono ?_; rintro e w4 ⟨A, c, rfl, hC, hle, ho, hr⟩; have HO3 := Aside0.mk ho; have HR3 := Aside0.mk hr; have hs := HS.out _ _ c _ hC; clear ho hr hC hle))
    go_ret
    exact ⟨rfl, HO.out.trans HO3.out, HR3.out⟩
end Go.Proofs.Ytnidooobefoahaa.Hand
