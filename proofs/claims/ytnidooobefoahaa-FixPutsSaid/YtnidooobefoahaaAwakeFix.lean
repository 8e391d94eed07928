/- What puts: contracts; and what a program that does nothing answers wrongly is answered rightly. -/
import Derived.Test.YtnidooobefoahaaPutPure
import Derived.Test.YtnidooobefoahaaReadMake
namespace Go.Proofs.Ytnidooobefoahaa.Hand
open Go.RowKit Go.Proofs.Ytnidooobefoahaa.Sp Go.Proofs.Ytnidooobefoahaa.Pure Go.Proofs.YtnidooobefoahaaW.PrintWords Go.Proofs.YtnidooobefoahaaW.PrintLast Go.Proofs.YtnidooobefoahaaW.PrintMore
set_option linter.unusedVariables false
set_option linter.unusedSimpArgs false

def PutOut (w : World) (r : List Int) (x : Ending) (w' : World) : Prop :=
  ∃ A c, x = .returned (.slice A r.length c) ∧ Kd.R (Kd.int .u8) 5 w' w.heap.size (fun _ => True) (.slice A r.length c) r ∧ (Kd.int .u8).C w' A r.length r ∧ r.length ≤ c ∧ Below w.heap.size w w'
theorem putOut_of {w : World} {r : List Int} {x : Ending} {w' : World} (h : ∃ v0_ : Value, x = .returned (v0_) ∧ Kd.R (Kd.int .u8) 5 w' w.heap.size (fun _ => True) v0_ r ∧ Below w.heap.size w w') : PutOut w r x w' := by
  obtain ⟨v, rfl, hR, hb⟩ := h
  obtain ⟨A, c, rfl, hle, hC⟩ := Kd.R_reads hR
  exact ⟨A, c, rfl, hR, hC, hle, hb⟩
theorem Put16_any {w : World} {A0 : Option Addr} {c0 : Nat} {l : List Int} (v : Int) (hr0 : (Kd.int .u8).C w A0 l.length l) (hc0 : l.length ≤ c0) (hl : l.length + 2 < 140737488355328) :
    Calls Try.prog 11 #[.slice A0 l.length c0, .int .i64 v] w (PutOut w (l ++ bigE v 2)) :=
  (fix_Put16.calls 3 A0 c0 l v _ w hr0 hc0 (put16_f l v hl 3 (by omega))).mono fun _ _ h => putOut_of h
theorem Put32_any {w : World} {A0 : Option Addr} {c0 : Nat} {l : List Int} (v : Int) (hr0 : (Kd.int .u8).C w A0 l.length l) (hc0 : l.length ≤ c0) (hl : l.length + 4 < 140737488355328) :
    Calls Try.prog 12 #[.slice A0 l.length c0, .int .i64 v] w (PutOut w (l ++ bigE v 4)) :=
  (fix_Put32.calls 5 A0 c0 l v _ w hr0 hc0 (put32_f l v hl 5 (by omega))).mono fun _ _ h => putOut_of h
theorem PutText_any {w : World} {A0 : Option Addr} {c0 : Nat} {l : List Int} (s : ByteArray) (hs : s.size ≤ 9223372036854775807) (hr0 : (Kd.int .u8).C w A0 l.length l) (hc0 : l.length ≤ c0) (hl : l.length + 65537 < 140737488355328) :
    Calls Try.prog 14 #[.slice A0 l.length c0, .string s] w (PutOut w (l ++ textE s)) :=
  (fix_PutText.calls 3 A0 c0 l s _ w hr0 hc0 (putText_f l s hs (by omega) 3 (by omega))).mono fun _ _ h => putOut_of h
theorem R_head {e base : Nat} {ok : Nat → Prop} {w : World} {A : Option Addr} {c : Nat} {l : List Int} (h : Kd.R (Kd.int .u8) e w base ok (.slice A l.length c) l) (hl : 0 < l.length) : ∃ b, A = some ⟨b, 0, none⟩ ∧ base ≤ b ∧ b < w.heap.size := by
  obtain ⟨inner, ho⟩ := Kd.R_own h
  obtain ⟨b, cap, hv, _⟩ := ho.form hl
  injection hv with h1 h2 h3
  subst h1
  exact ⟨b, rfl, own_base ho b rfl, own_lt ho b rfl⟩
theorem bytes_lit2 (w : World) (a b : Int) (e : TypeId) (fr : Nat × Nat) : (Kd.int .u8).C (w.alloc (.cells #[.int .u8 a, .int .u8 b] e fr)) (some ⟨w.heap.size, 0, none⟩) [a, b].length [a, b] := by
  refine Kd.C_of_reads (d := (0 : Int)) (h1 := fun _ => rfl) ⟨rfl, by simp, fun _ => ⟨_, rfl, fun j hj => ?_⟩⟩
  rw [add_plain, World.cell?_alloc_mark]
  match j, hj with
  | 0, _ => rfl
  | 1, _ => rfl
  | n + 2, h => exact absurd h (by simp)
theorem put_258 : ([] : List Int) ++ bigE 258 2 = [1, 2] := by decide
theorem num_258 : rNum [1, 2] ⟨0, 0⟩ 2 = (258, ⟨2, 0⟩) := rfl
set_option maxHeartbeats 1000000 in
theorem awake_true (w : World) : Calls Try.prog 10 #[] w fun e w' => e = .returned (.bool true) ∧ Below w.heap.size w w' := by
  have HP : Aside0 (Calls Try.prog 11 #[.slice none 0 0, .int .i64 258] w (PutOut w [1, 2])) := ⟨by
    have := Put16_any (w := w) (c0 := 0) (l := []) 258 (Kd.C_nil _ _) (by simp) (by simp)
    rw [put_258] at this
    exact this⟩
  go_enter Try.func10, Try.ntmps10
  go_wp2_with (first | (go_at_call 11; refine HP.out.mono ?_; rintro e w1 ⟨A, c, rfl, hR, hC, hle, hb⟩; obtain ⟨b, rfl, _, _⟩ := R_head hR (by simp); have HC := Aside0.mk hC; have HB := Aside0.mk hb; clear hR hC hb) | (go_at_call 16; refine (Read_any (bytes_lit2 _ 1 2 _ _) (by simp) (by simp) (by simp [isBy])).mono ?_; rintro e w2 ⟨g, rfl, hb, hr⟩; have HB2 := Aside0.mk hb; have HR := Aside0.mk hr; obtain ⟨_, hA, hcell⟩ := (Kd.reads_of_C (enc := Value.int .u8) (d := (0 : Int)) (h1 := fun _ => rfl) (Kd.C_below (Kd.C_alloc HC.out _) hb)).2.2 (by simp); injection hA with hA; subst hA; have hcA := hcell 0 (by simp); have hcB := hcell 1 (by simp); rw [add_plain] at hcA hcB; clear hcell hb hr) | (go_at_call 19; refine (Take16_any HR.out).mono ?_; rw [num_258]; rintro e w3 ⟨rfl, ho, hr⟩; have HO := Aside0.mk ho; have HR2 := Aside0.mk hr; clear ho hr) | (go_at_call 22; refine (Err_rd HR2.out).mono ?_; rintro e w4 ⟨rfl, rfl⟩))
  go_ret
  have h2 := below_step (below_alloc HB.out _) HB2.out
  have h1 := HR.out.base
  have h3 := HB.out.size
  exact ⟨rfl, HO.out.below h2 (by simp at h1; omega) h2.size⟩
def sapwoodlaw01_awake.f : Option Bool := some true
theorem sapwoodlaw01_awake.calls (r : Bool) (w : World) (h : sapwoodlaw01_awake.f = some r) : Calls Try.prog 10 #[] w fun e w' => e = .returned (.bool r) ∧ Below w.heap.size w w' := by
  obtain rfl := Option.some.inj h
  exact awake_true w
end Go.Proofs.Ytnidooobefoahaa.Hand
