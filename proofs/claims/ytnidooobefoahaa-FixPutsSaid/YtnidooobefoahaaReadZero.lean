/- The reader of package fix: the rest that must be zero; a reader that is made; a nil reader. -/
import Derived.Test.YtnidooobefoahaaReadNum
namespace Go.Proofs.Ytnidooobefoahaa.Hand
open Go.RowKit Go.Proofs.YtnidooobefoahaaW.PrintWords Go.Proofs.YtnidooobefoahaaW.PrintLast Go.Proofs.YtnidooobefoahaaW.PrintMore
set_option linter.unusedVariables false
set_option linter.unusedSimpArgs false

theorem nz_any (c : Int) (w : World) : Calls Try.prog 34 #[.int .u8 c] w fun x w' => x = .returned (.bool (c != 0)) ∧ w' = w := by
  go_enter Try.func34, Try.ntmps34
  go_wp2
  go_ret
  exact ⟨rfl, rfl⟩
def anyNZ (x : List Int) : Bool := x.any (fun c => c != 0)
def IdxOut (x : List Int) (w : World) (e : Ending) (w' : World) : Prop := ∃ i : Int, e = .returned (.int .i64 i) ∧ decide (0 ≤ i) = anyNZ x ∧ w' = w
theorem anyNZ_of {x : List Int} {k : Nat} (hk : k < x.length) (h : x.getD k 0 ≠ 0) : anyNZ x = true := by
  unfold anyNZ
  rw [List.any_eq_true]
  refine ⟨x[k], List.getElem_mem hk, ?_⟩
  rw [List.getD_eq_getElem?_getD, List.getElem?_eq_getElem hk] at h
  simpa using h
theorem index_any {w : World} {A : Option Addr} {c : Nat} {x : List Int} (hC : (Kd.int .u8).C w A x.length x) (hl : x.length ≤ 140737488355328) :
    Calls Try.prog 35 #[.slice A x.length c, .func (.func 34) #[] #[]] w (IdxOut x w) := by
  have HC := Aside0.mk hC
  clear hC
  go_enter Try.func35, Try.ntmps35
  go_wp2
  go_loop [5, 8] (fun _ i => ∃ k : Nat, k ≤ x.length ∧ i = .int .i64 k ∧ ∀ j, j < k → x.getD j 0 = 0) (fun _ i => x.length - (intOf i).toNat)
  case atStart => exact ⟨0, Nat.zero_le _, rfl, fun j hj => absurd hj (by omega)⟩
  case round =>
    obtain ⟨k, hk, rfl, hz⟩ := hrel
    have HZ := Aside0.mk hz
    clear hz
    by_cases hlt : k < x.length
    · obtain ⟨ad, rfl, hcell⟩ := (Kd.reads_of_C (enc := Value.int .u8) (d := (0 : Int)) (h1 := fun _ => rfl) HC.out).2.2 (by omega)
      have hk' := hcell k hlt
      clear hcell
      go_wp2_with (go_at_call 34; refine (nz_any _ _).mono ?_; rintro e w1 ⟨rfl, rfl⟩)
      · have h0 : (x[k] != 0) = true := by assumption
        go_ret
        exact ⟨k, rfl, by rw [anyNZ_of hlt (by simpa [List.getD_eq_getElem?_getD, List.getElem?_eq_getElem hlt] using h0)]; exact decide_eq_true (by omega), rfl⟩
      · have h0 : (x[k] != 0) = false := by assumption
        refine ⟨⟨k + 1, by omega, by go_num, fun j hj => ?_⟩, by simp [intOf]; omega⟩
        by_cases h : j = k
        · subst h
          simpa [List.getD_eq_getElem?_getD, List.getElem?_eq_getElem hlt] using h0
        · exact HZ.out j (by omega)
    · have hn : anyNZ x = false := by
        unfold anyNZ
        rw [List.any_eq_false]
        intro y hy
        obtain ⟨j, hj, rfl⟩ := List.mem_iff_getElem.1 hy
        have := HZ.out j (by omega)
        rw [List.getD_eq_getElem?_getD, List.getElem?_eq_getElem hj] at this
        simpa using this
      have HN := Aside0.mk hn
      clear hn
      go_wp2
      go_ret
      exact ⟨-1, rfl, by rw [HN.out]; rfl, rfl⟩
theorem contains_any {w : World} {A : Option Addr} {c : Nat} {x : List Int} (hC : (Kd.int .u8).C w A x.length x) (hl : x.length ≤ 140737488355328) :
    Calls Try.prog 33 #[.slice A x.length c, .func (.func 34) #[] #[]] w fun e w' => e = .returned (.bool (anyNZ x)) ∧ w' = w := by
  have HC := Aside0.mk (index_any (c := c) hC hl)
  clear hC
  go_enter Try.func33, Try.ntmps33
  go_wp2_with (go_at_call 35; refine HC.out.mono ?_; rintro e w1 ⟨i, rfl, hi, rfl⟩)
  go_ret
  exact ⟨rfl, rfl⟩
theorem contains_is {w : World} {A : Option Addr} {c : Nat} {x : List Int} {b : Bool} (hb : anyNZ x = b) (hC : (Kd.int .u8).C w A x.length x) (hl : x.length ≤ 140737488355328) :
    Calls Try.prog 33 #[.slice A x.length c, .func (.func 34) #[] #[]] w fun e w' => e = .returned (.bool b) ∧ w' = w := by
  rw [← hb]; exact contains_any hC hl
def rZero (l : List Int) (s : RS) : RS := if s.e ≠ 0 then s else if anyNZ (l.drop s.p) then ⟨s.p, 3⟩ else ⟨l.length, 0⟩
def ZeroOut (w : World) (bs g : Nat) (l : List Int) (r : RS) (x : Ending) (w' : World) : Prop := x = .returned (.tuple #[]) ∧ Only w w' g ∧ Rd w' bs g l r
theorem Zero_any {w : World} {bs g : Nat} {l : List Int} {s : RS} (h : Rd w bs g l s) :
    Calls Try.prog 25 #[.pointer (some ⟨g, 0, none⟩)] w (ZeroOut w bs g l (rZero l s)) := by
  obtain ⟨p, e⟩ := s
  by_cases he : e = 0
  · subst he
    obtain ⟨⟨A, c, h1, h2, h3, h4⟩, hat, hsm, hib, hbs⟩ := h
    simp only at hat h1
    have hd := Kd.C_drop (m := p) h3 hat h2
    have hcut : ∀ W : World, (Instr.slice 23 (.slice A l.length c) (some (.int .i64 (p : Int))) none none).run Try.prog W = .ok (.slice (if c = p then A else A.map (·.add (p * 1))) (l.drop p).length (c - p)) W := fun W => by
      have := cut_from (P := Try.prog) 23 5 .i64 Try.underlying23 rfl 1 rfl A l.length c (p : Int) (by omega) (by omega) W
      rw [this, Int.toNat_natCast, List.length_drop]
    have hd' : (Kd.int .u8).C w (if c = p then A else A.map (·.add (p * 1))) (l.drop p).length (l.drop p) := hd
    clear hd
    generalize (if c = p then A else A.map (·.add (p * 1))) = A' at hcut hd'
    have HD := Aside0.mk hd'
    have H3 := Aside0.mk h3
    have H4 : Aside0 (RowIn l bs g A) := ⟨h4⟩
    have HI := Aside0.mk hib
    have h0 := h1.c0
    have hc1 := h1.c1
    have hf1 := h1.fr 1
    have hle : (l.drop p).length ≤ 140737488355328 := by rw [List.length_drop]; omega
    have hp0 : (0 : Int) ≤ (p : Int) := by omega
    have hp1 : (p : Int) ≤ (l.length : Int) := by omega
    clear hd' h3 h4 hib
    unfold rZero
    rw [if_neg (by simp)]
    simp only
    generalize hx : l.drop p = x at hcut HD hle ⊢
    clear hx
    cases hz : anyNZ x with
    | true =>
      rw [if_pos rfl]
      have HZ := Aside0.mk hz
      clear hz
      go_enter Try.func25, Try.ntmps25
      go_wp2_with (go_at_call 22; refine (Err_calls h1).mono ?_; rintro e w1 ⟨rfl, rfl⟩)
      go_quiet ((go_at_call 33; exact Calls.quiet_of_same (contains_is HZ.out HD.out hle)))
      go_wp2_with (go_at_call 31; refine (fails_first (A := A) (n := l.length) (c := c) (at_ := (p : Int)) 3 ?hrd).mono ?_; (case hrd => exact h1); rintro e w5 ⟨rfl, rfl⟩)
      go_end0
      have ho := (Only.drew w1 (by assumption) g).set 2 (.int .i64 3)
      exact ⟨rfl, ho, ⟨⟨A, c, blk_put (show (World.drewN _ _).heap[g]? = _ from h1) 2 _ rfl, h2, Kd.C_keep (0 : Int) H3.out ho.keep (RowIn.ne H4.out), H4.out⟩, hat, hsm, HI.out, hbs⟩⟩
    | false =>
      rw [if_neg (by simp)]
      have HZ := Aside0.mk hz
      clear hz
      go_enter Try.func25, Try.ntmps25
      go_wp2_with (go_at_call 22; refine (Err_calls h1).mono ?_; rintro e w1 ⟨rfl, rfl⟩)
      go_quiet ((go_at_call 33; exact Calls.quiet_of_same (contains_is HZ.out HD.out hle)))
      go_wp2
      go_end0
      have ho := (Only.drew w1 (by assumption) g).set 1 (.int .i64 (l.length : Int))
      exact ⟨rfl, ho, ⟨⟨A, c, blk_put (show (World.drewN _ _).heap[g]? = _ from h1) 1 _ rfl, h2, Kd.C_keep (0 : Int) H3.out ho.keep (RowIn.ne H4.out), H4.out⟩, Nat.le_refl _, hsm, HI.out, hbs⟩⟩
  · have HH := Aside0.mk h
    have hz : (e != 0) = true := bne_iff_ne.mpr he
    unfold rZero
    rw [if_pos he]
    go_enter Try.func25, Try.ntmps25
    go_wp2_with (go_at_call 22; refine (Err_rd h).mono ?_; rintro e w1 ⟨rfl, rfl⟩)
    go_end0
    exact ⟨rfl, Only.refl _ _, HH.out⟩
end Go.Proofs.Ytnidooobefoahaa.Hand
