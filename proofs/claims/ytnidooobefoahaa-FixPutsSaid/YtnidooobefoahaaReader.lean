/- The reader of package fix, call by call: what it answers and where it stands behind. -/
import Derived.Test.YtnidooobefoahaaClone
import Derived.Lib.SliceRun
import Derived.Deep.QuietTactic
import Derived.BigQuiet
import Derived.IntWalk
import Derived.Lib.Hide
import Derived.Outline
namespace Go.Proofs.Ytnidooobefoahaa.Hand
open Go.RowKit Go.Proofs.YtnidooobefoahaaW.PrintWords Go.Proofs.YtnidooobefoahaaW.PrintLast Go.Proofs.YtnidooobefoahaaW.PrintMore
set_option linter.unusedVariables false
set_option linter.unusedSimpArgs false

/-- A reader at block g: its row, how far it is read, its error. -/
def IsRd (w : World) (g : Nat) (A : Option Addr) (n c : Nat) (at_ e : Int) : Prop :=
  w.heap[g]? = some (.cells #[.slice A n c, .int .i64 at_, .int .i64 e] 54 (0, 0))
theorem IsRd.c0 {w : World} {g : Nat} {A : Option Addr} {n c : Nat} {at_ e : Int} (h : IsRd w g A n c at_ e) : w.cell? ⟨g, 0, none⟩ = some (.slice A n c) := by simp [World.cell?, h, IsRd] at *; simp [h]
theorem IsRd.c1 {w : World} {g : Nat} {A : Option Addr} {n c : Nat} {at_ e : Int} (h : IsRd w g A n c at_ e) : w.cell? ⟨g, 1, none⟩ = some (.int .i64 at_) := by simp [World.cell?, h, IsRd] at *; simp [h]
theorem IsRd.c2 {w : World} {g : Nat} {A : Option Addr} {n c : Nat} {at_ e : Int} (h : IsRd w g A n c at_ e) : w.cell? ⟨g, 2, none⟩ = some (.int .i64 e) := by simp [World.cell?, h, IsRd] at *; simp [h]

theorem Err_calls {w : World} {g : Nat} {A : Option Addr} {n c : Nat} {at_ e : Int} (h : IsRd w g A n c at_ e) :
    Calls Try.prog 22 #[.pointer (some ⟨g, 0, none⟩)] w fun x w' => x = .returned (.int .i64 e) ∧ w' = w := by
  have h2 := h.c2
  clear h
  go_enter Try.func22, Try.ntmps22
  go_wp2
  go_ret
  exact ⟨rfl, rfl⟩
theorem At_calls {w : World} {g : Nat} {A : Option Addr} {n c : Nat} {at_ e : Int} (h : IsRd w g A n c at_ e) :
    Calls Try.prog 23 #[.pointer (some ⟨g, 0, none⟩)] w fun x w' => x = .returned (.int .i64 at_) ∧ w' = w := by
  have h2 := h.c1
  clear h
  go_enter Try.func23, Try.ntmps23
  go_wp2
  go_ret
  exact ⟨rfl, rfl⟩
theorem IsRd.fr {w : World} {g : Nat} {A : Option Addr} {n c : Nat} {at_ e : Int} (h : IsRd w g A n c at_ e) (j : Nat) : w.frozen? ⟨g, j, none⟩ = false := blk_frozen h j
theorem fails_first {w : World} {g : Nat} {A : Option Addr} {n c : Nat} {at_ : Int} (x : Int) (h : IsRd w g A n c at_ 0) :
    Calls Try.prog 31 #[.pointer (some ⟨g, 0, none⟩), .int .i64 x] w fun y w' => y = .returned (.tuple #[]) ∧ w' = w.setCell ⟨g, 2, none⟩ (.int .i64 x) := by
  have h2 := h.c2
  have h3 := h.fr 2
  go_enter Try.func31, Try.ntmps31
  go_wp2_with (go_at_call 22; refine (Err_calls h).mono ?_; rintro e w1 ⟨rfl, rfl⟩)
  go_end0
  exact ⟨rfl, rfl⟩
/-- All but block g is as it was. -/
structure Only (w w' : World) (g : Nat) : Prop where
  os : w'.os = w.os
  tape : w'.tape = w.tape
  output : w'.output = w.output
  size : w.heap.size ≤ w'.heap.size
  block : ∀ k, k < w.heap.size → k ≠ g → w'.heap[k]? = w.heap[k]?
theorem Only.refl (w : World) (g : Nat) : Only w w g := ⟨rfl, rfl, rfl, Nat.le_refl _, fun _ _ _ => rfl⟩
theorem Only.trans {a b c : World} {g : Nat} (h : Only a b g) (k : Only b c g) : Only a c g :=
  ⟨k.os.trans h.os, k.tape.trans h.tape, k.output.trans h.output, Nat.le_trans h.size k.size, fun i hi hg => (k.block i (Nat.lt_of_lt_of_le hi h.size) hg).trans (h.block i hi hg)⟩
theorem Only.of_below {a b : World} {g : Nat} (h : Below a.heap.size a b) : Only a b g := ⟨h.os, h.tape, h.output, h.size, fun i hi _ => h.block i hi⟩
theorem Only.set {a b : World} {g : Nat} (h : Only a b g) (j : Nat) (u : Value) : Only a (b.setCell ⟨g, j, none⟩ u) g :=
  ⟨h.os, h.tape, h.output, by simpa [World.setCell] using h.size, fun i hi hg => (Below.heap_setCell b ⟨g, j, none⟩ u i hg).trans (h.block i hi hg)⟩
theorem Only.drew (a : World) (q g : Nat) : Only a (a.drewN q) g := Only.of_below (pw_below_drewN (Below.refl _ _) _)
theorem Only.below {a b c : World} {g B : Nat} (h : Below B a b) (k : Only b c g) (hg : B ≤ g) (hB : B ≤ b.heap.size) : Below B a c :=
  ⟨k.os.trans h.os, k.tape.trans h.tape, k.output.trans h.output, Nat.le_trans h.size k.size, fun i hi => (k.block i (by omega) (by omega)).trans (h.block i hi)⟩
theorem bytes_err {w : World} {g : Nat} {A : Option Addr} {n c : Nat} {at_ e : Int} (h : IsRd w g A n c at_ e) (he : e ≠ 0) (many : Int) :
    Calls Try.prog 32 #[.pointer (some ⟨g, 0, none⟩), .int .i64 many] w fun x w' => x = .returned (.slice none 0 0) ∧ w' = w := by
  have he1 : (e == 0) = false := beq_eq_false_iff_ne.mpr he
  have he2 : (e != 0) = true := bne_iff_ne.mpr he
  go_enter Try.func32, Try.ntmps32
  go_wp2_with (go_at_call 22; refine (Err_calls h).mono ?_; rintro e w1 ⟨rfl, rfl⟩)
  go_ret
  exact ⟨rfl, rfl⟩
theorem bytes_short {w : World} {g : Nat} {A : Option Addr} {n c : Nat} {at_ : Int} (h : IsRd w g A n c at_ 0) (many d : Int) (hd : wrap64 ((n : Int) - at_) = d) (hm : d < many) :
    Calls Try.prog 32 #[.pointer (some ⟨g, 0, none⟩), .int .i64 many] w fun x w' => x = .returned (.slice none 0 0) ∧ Only w w' g ∧ IsRd w' g A n c at_ 2 := by
  have h0 := h.c0
  have h1 := h.c1
  have hm1 := eq_true hm
  have hm2 := decide_eq_true hm
  have hd2 : IntKind.i64.wrap ((n : Int) - at_) = d := (i64_w _).trans hd
  go_enter Try.func32, Try.ntmps32
  go_wp2_with (go_at_call 22; refine (Err_calls h).mono ?_; rintro e w1 ⟨rfl, rfl⟩)
  go_quiet ((fail))
  go_wp2_with (go_at_call 31; refine (fails_first (A := A) (n := n) (c := c) (at_ := at_) 2 ?hrd).mono ?_; (case hrd => exact h); rintro e w5 ⟨rfl, rfl⟩)
  go_ret
  refine ⟨rfl, ?_, ?_⟩
  · exact (Only.drew _ _ _).set 2 _
  · exact blk_put (show (World.drewN _ _).heap[g]? = _ from h) 2 _ rfl
theorem bytes_ok {w : World} {g : Nat} {A : Option Addr} {n c p m : Nat} (h : IsRd w g A n c (p : Int) 0) (hc : n ≤ c) (hn : n ≤ 4611686018427387904) (hm : p + m ≤ n) :
    Calls Try.prog 32 #[.pointer (some ⟨g, 0, none⟩), .int .i64 (m : Int)] w fun x w' => x = .returned (.slice (if c = p then A else A.map (·.add (p * 1))) m (c - p)) ∧ Only w w' g ∧ IsRd w' g A n c ((p + m : Nat) : Int) 0 := by
  have h0 := h.c0
  have h1 := h.c1
  have h3 := h.fr 1
  have hs1 : IntKind.i64.wrap ((n : Int) - (p : Int)) = (n : Int) - (p : Int) := IntWalk.i64_in _ (by omega)
  have hs2 : IntKind.i64.wrap ((p : Int) + (m : Int)) = (p : Int) + (m : Int) := IntWalk.i64_in _ (by omega)
  have hlt : decide ((n : Int) - (p : Int) < (m : Int)) = false := decide_eq_false (by omega)
  have hlt2 : ((n : Int) - (p : Int) < (m : Int)) = False := eq_false (by omega)
  have hcut : ∀ W : World, (Instr.slice 23 (.slice A n c) (some (.int .i64 (p : Int))) (some (.int .i64 ((p : Int) + (m : Int)))) none).run Try.prog W = .ok (.slice (if c = p then A else A.map (·.add (p * 1))) m (c - p)) W := fun W => by
    have := cut_mid (P := Try.prog) 23 5 .i64 .i64 Try.underlying23 rfl 1 rfl A n c (p : Int) ((p : Int) + (m : Int)) (by omega) (by omega) (by omega) hc W
    rw [this]
    have e1 : ((p : Int) + (m : Int)).toNat - (p : Int).toNat = m := by omega
    rw [e1, Int.toNat_natCast]
  have HX : Hid (((p + m : Nat) : Int) = (p : Int) + (m : Int)) := Lib.hid (by omega)
  have hm' : (p : Int) + (m : Int) ≤ 4611686018427387904 := by omega
  have hp0 : (0 : Int) ≤ (p : Int) + (m : Int) := by omega
  clear hm hn hc
  generalize (if c = p then A else A.map (·.add (p * 1))) = A' at hcut ⊢
  go_enter Try.func32, Try.ntmps32
  go_wp2_with (go_at_call 22; refine (Err_calls h).mono ?_; rintro e w1 ⟨rfl, rfl⟩)
  go_quiet ((fail))
  go_wp2
  go_quiet ((fail))
  go_wp2
  go_ret
  rw [HX.out]
  refine ⟨rfl, ?_, ?_⟩
  · exact (Only.drew _ _ _).set 1 _
  · exact blk_put (show (World.drewN _ _).heap[g]? = _ from h) 1 _ rfl
/-! ### the reader told by the bytes that it was made of -/
structure RS where
  p : Nat
  e : Int
def rFail (s : RS) (x : Int) : RS := if s.e = 0 then ⟨s.p, x⟩ else s
def rBytes (l : List Int) (s : RS) (m : Nat) : List Int × RS :=
  if s.e ≠ 0 then ([], s) else if l.length - s.p < m then ([], ⟨s.p, 2⟩) else ((l.take (s.p + m)).drop s.p, ⟨s.p + m, 0⟩)
def numOf (x : List Int) : Int := x.foldl (fun n c => n * 256 + c) 0
def rNum (l : List Int) (s : RS) (m : Nat) : Int × RS := (numOf (rBytes l s m).1, (rBytes l s m).2)
def isBy (l : List Int) : Prop := ∀ x ∈ l, 0 ≤ x ∧ x ≤ 255
/-- A reader at block g over the bytes l, in the state s. -/
structure Rd (w : World) (bs g : Nat) (l : List Int) (s : RS) : Prop where mk ::
  blk : ∃ A c, IsRd w g A l.length c (s.p : Int) s.e ∧ l.length ≤ c ∧ (Kd.int .u8).C w A l.length l ∧ ∀ ad, A = some ad → 0 < l.length → bs ≤ ad.block ∧ ad.block < g
  at_ : s.p ≤ l.length
  small : l.length ≤ 140737488355328
  isb : isBy l
  base : bs ≤ g
theorem Rd.lt {w : World} {bs g : Nat} {l : List Int} {s : RS} (h : Rd w bs g l s) : g < w.heap.size := by
  obtain ⟨A, c, h1, _⟩ := h.blk
  exact blk_lt h1
def RowIn (l : List Int) (bs g : Nat) (A : Option Addr) : Prop := ∀ ad, A = some ad → 0 < l.length → bs ≤ ad.block ∧ ad.block < g
theorem RowIn.ne {l : List Int} {bs g : Nat} {A : Option Addr} (h : RowIn l bs g A) : ∀ ad, A = some ad → 0 < l.length → ad.block ≠ g := fun ad e hp => Nat.ne_of_lt (h ad e hp).2
theorem Only.keep {w w' : World} {g : Nat} (h : Only w w' g) : KeepBut w w' g none := ⟨h.size, fun i hi hg _ => h.block i hi hg⟩
/-- What another call has turned lies elsewhere. -/
theorem Rd.other {w w' : World} {bs g k : Nat} {l : List Int} {s : RS} (h : Rd w bs g l s) (hk : Only w w' k) (hg : k < bs ∨ g < k) : Rd w' bs g l s := by
  obtain ⟨⟨A, c, h1, h2, h3, h4⟩, r1, r2, r3, r4⟩ := h
  exact ⟨⟨A, c, (hk.block g (blk_lt h1) (by omega)).trans h1, h2, Kd.C_keep (0 : Int) h3 hk.keep (fun ad e hp => by have := h4 ad e hp; omega), h4⟩, r1, r2, r3, r4⟩
theorem Rd.below {w w' : World} {bs g : Nat} {l : List Int} {s : RS} (h : Rd w bs g l s) (hb : Below w.heap.size w w') : Rd w' bs g l s := by
  obtain ⟨⟨A, c, h1, h2, h3, h4⟩, r1, r2, r3, r4⟩ := h
  exact ⟨⟨A, c, (hb.block g (blk_lt h1)).trans h1, h2, Kd.C_below h3 hb, h4⟩, r1, r2, r3, r4⟩
def BytesOut (w : World) (bs g : Nat) (l : List Int) (r : List Int × RS) (x : Ending) (w' : World) : Prop :=
  ∃ A c, x = .returned (.slice A r.1.length c) ∧ (Kd.int .u8).C w' A r.1.length r.1 ∧ r.1.length ≤ c ∧ Only w w' g ∧ Rd w' bs g l r.2
theorem bytes_any {w : World} {bs g : Nat} {l : List Int} {s : RS} (h : Rd w bs g l s) (m : Nat) (hm : m ≤ 4611686018427387904) :
    Calls Try.prog 32 #[.pointer (some ⟨g, 0, none⟩), .int .i64 (m : Int)] w (BytesOut w bs g l (rBytes l s m)) := by
  obtain ⟨⟨A, c, h1, h2, h3, h4⟩, hat, hsm, hib, hbs⟩ := h
  unfold rBytes
  by_cases he : s.e = 0
  · rw [if_neg (by simp [he])]
    rw [he] at h1
    by_cases hlt : l.length - s.p < m
    · rw [if_pos hlt]
      refine (bytes_short (d := (l.length : Int) - (s.p : Int)) h1 (m : Int) ?_ (by omega)).mono ?_
      · unfold wrap64; omega
      · rintro x w' ⟨rfl, ho, hr⟩
        exact ⟨none, 0, rfl, Kd.C_nil _ _, Nat.le_refl _, ho, ⟨⟨A, c, hr, h2, Kd.C_keep (0 : Int) h3 ho.keep (RowIn.ne h4), h4⟩, hat, hsm, hib, hbs⟩⟩
    · rw [if_neg hlt]
      refine (bytes_ok h1 h2 (by omega) (by omega)).mono ?_
      rintro x w' ⟨rfl, ho, hr⟩
      have hC := Kd.C_keep (0 : Int) h3 ho.keep (RowIn.ne h4)
      have hM := Kd.C_mid (lo := s.p) (hi := s.p + m) hC (by omega) (by omega) h2
      have hl : ((l.take (s.p + m)).drop s.p).length = m := by rw [List.length_drop, List.length_take]; omega
      rw [hl] at hM
      refine ⟨if c = s.p then A else A.map (·.add (s.p * 1)), c - s.p, ?_, ?_, ?_, ho, ⟨⟨A, c, hr, h2, hC, h4⟩, ?_, hsm, hib, hbs⟩⟩
      · show Ending.returned _ = Ending.returned _
        simp only
        rw [hl]
      · rw [hl]; exact hM
      · rw [hl]; omega
      · show s.p + m ≤ l.length; omega
  · rw [if_pos he]
    refine (bytes_err h1 he _).mono ?_
    rintro x w' ⟨rfl, rfl⟩
    exact ⟨none, 0, rfl, Kd.C_nil _ _, Nat.le_refl _, Only.refl _ _, ⟨⟨A, c, h1, h2, h3, h4⟩, hat, hsm, hib, hbs⟩⟩
end Go.Proofs.Ytnidooobefoahaa.Hand
