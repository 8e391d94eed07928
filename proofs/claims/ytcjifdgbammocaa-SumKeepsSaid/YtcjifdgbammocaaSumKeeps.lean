/- The walk of SumKeeps. -/
import Derived.Test.YtcjifdgbammocaaSumPure
import Derived.Test.YtcjifdgbammocaaRoom
namespace Go.Proofs.Ytcjifdgbammocaa.Hand
open Go.RowKit Go.Proofs.Ytcjifdgbammocaa.Sp Go.Proofs.Ytcjifdgbammocaa.Room Go.Proofs.Ytcjifdgbammocaa.Pure Go.Proofs.YtcjifdgbammocaaW.PrintWords Go.Proofs.YtcjifdgbammocaaW.PrintLast Go.Proofs.YtcjifdgbammocaaW.PrintMore
set_option linter.unusedVariables false
set_option linter.unusedSimpArgs false
def SealOut (w : World) (l : List Int) (x : Ending) (w' : World) : Prop := ∃ b c, x = .returned (.slice (some ⟨b, 0, none⟩) (sealL l).length c) ∧ w.heap.size ≤ b ∧ b < w'.heap.size ∧ (sealL l).length ≤ c ∧ Bytes w' b (sealL l).length ∧ (Kd.int .u8).C w' (some ⟨b, 0, none⟩) (sealL l).length (sealL l) ∧ Below w.heap.size w w'
theorem Seal_any {w : World} {A : Option Addr} {c : Nat} {l : List Int} (hC : (Kd.int .u8).C w A l.length l) (hc : l.length ≤ c) (hB : l.all isB = true) (hl : l.length ≤ 100000) :
    Calls Try.prog 14 #[.slice A l.length c] w (SealOut w l) := by
  refine (sum_Seal.calls A c l (sealL l) w hC hc (seal_f hB (by omega))).mono ?_
  rintro e w' ⟨v, rfl, hR, hb⟩
  obtain ⟨A', c', rfl, hle, hC'⟩ := Kd.R_reads hR
  obtain ⟨b, rfl, h1, h2, h3⟩ := R_at hR (by rw [sealL_length]; omega)
  exact ⟨b, c', rfl, h1, h2, hle, h3, hC', hb⟩
/-- What Open gives, of what was sealed. -/
def OpenOut (w : World) (l : List Int) (x : Ending) (w' : World) : Prop := ∃ A c, x = .returned (.tuple #[.slice A l.length c, .bool true]) ∧ (Kd.int .u8).C w' A l.length l ∧ (0 < l.length → ∃ b, A = some ⟨b, 0, none⟩ ∧ w.heap.size ≤ b ∧ b < w'.heap.size ∧ Bytes w' b l.length) ∧ Below w.heap.size w w'
theorem Open_any {w : World} {A : Option Addr} {c : Nat} {l : List Int} (hC : (Kd.int .u8).C w A (sealL l).length (sealL l)) (hc : (sealL l).length ≤ c) (hB : l.all isB = true) (hl : l.length ≤ 100000) :
    Calls Try.prog 11 #[.slice A (sealL l).length c] w (OpenOut w l) := by
  have hf := open_f (sealL_bytes hB) (by rw [sealL_length]; omega) ((sealL l).length + 1) (by omega)
  rw [opened_seal, take_seal] at hf
  refine (sum_Open.calls ((sealL l).length + 1) A c (sealL l) l true w hC hc hf).mono ?_
  rintro e w' ⟨v, rfl, hR, hb⟩
  obtain ⟨A', c', rfl, hle, hC'⟩ := Kd.R_reads hR
  exact ⟨A', c', rfl, hC', fun h0 => R_at hR h0, hb⟩
theorem sz_u8 (w : World) : (Go.sizeOf 5).run Try.prog w = .ok 1 w := by
  obtain ⟨i, hi, hzz⟩ := Option.map_eq_some_iff.1 info_u8
  simp only [Prod.mk.injEq] at hzz
  simp [sizeOf, typeInfo, hi, hzz.2.1]
def ZRel (n m : Nat) (i : Value) : Prop := ∃ k : Nat, n ≤ k ∧ k ≤ n + m ∧ i = .int .i64 (k : Int)
/-- A row is being written. -/
def WRel (w : World) (b n : Nat) (i : Value) (wr : World) : Prop := ∃ k : Nat, k ≤ n ∧ i = .int .i64 (k : Int) ∧ OnlyB w wr b ∧ Bytes wr b n
/-- Open, of what was sealed, said for the walk. -/
def OpenOut2 (W : World) (s : ByteArray) (e : Ending) (w' : World) : Prop := ∃ A c b, e = .returned (.tuple #[.slice A s.size c, .bool true]) ∧ (Kd.int .u8).C w' A (bytesOf s).length (bytesOf s) ∧ (0 < s.size → A = some ⟨b, 0, none⟩ ∧ b < w'.heap.size) ∧ W.heap.size ≤ b ∧ Bytes w' b s.size ∧ Below W.heap.size W w'
theorem open2 {w : World} {A : Option Addr} {c : Nat} {s : ByteArray} (hC : (Kd.int .u8).C w A (sealL (bytesOf s)).length (sealL (bytesOf s))) (hc : (sealL (bytesOf s)).length ≤ c) (hl : s.size ≤ 5000) :
    Calls Try.prog 11 #[.slice A (sealL (bytesOf s)).length c] w (OpenOut2 w s) := by
  refine (Open_any hC hc (bytesOf_all s) (by rw [bytesOf_length]; omega)).mono ?_
  rintro e w' ⟨A, c, rfl, h1, h2, h3⟩
  rw [bytesOf_length] at h2
  by_cases h0 : 0 < s.size
  · obtain ⟨b, rfl, q1, q2, q3⟩ := h2 h0
    exact ⟨_, c, b, by rw [bytesOf_length], h1, fun _ => ⟨rfl, q2⟩, q1, q3, h3⟩
  · exact ⟨_, c, w.heap.size, by rw [bytesOf_length], h1, fun h => absurd h h0, Nat.le_refl _, fun j hj => absurd hj (by omega), h3⟩
theorem seal2 {w : World} {g c : Nat} {s : ByteArray} (hC : (Kd.int .u8).C w (some ⟨g, 0, none⟩) (bytesOf s).length (bytesOf s)) (hc : s.size ≤ c) (hl : s.size ≤ 5000) :
    Calls Try.prog 14 #[.slice (some ⟨g, 0, none⟩) s.size c] w (SealOut w (bytesOf s)) := by
  have := Seal_any (c := c) hC (by rw [bytesOf_length]; exact hc) (bytesOf_all s) (by rw [bytesOf_length]; omega)
  rwa [bytesOf_length] at this
theorem conv2 {w : World} {A : Option Addr} {c : Nat} {s : ByteArray} (hC : (Kd.int .u8).C w A (bytesOf s).length (bytesOf s)) : (convert 23 9 (.slice A s.size c)).run Try.prog w = .ok (.string s) w := by
  have := Kd.C_string (c := c) Try.underlying23 Try.underlying5 Try.underlying9 hC
  rwa [bytesOf_length, str_bytes] at this
set_option maxHeartbeats 4000000 in
set_option maxRecDepth 100000 in
theorem keeps_walk (s : ByteArray) (w : World) (hs : s.size ≤ 140737488351232) : Calls Try.prog 7 #[.string s] w fun e w' => e = .returned (.bool true) ∧ Below w.heap.size w w' := by
  by_cases h1 : s.size ≤ 5000
  · have t1 : decide (5000 < (s.size : Int)) = false := decide_eq_false (by omega)
    have hw8 : IntKind.i64.wrap ((s.size : Int) + 8) = (s.size : Int) + 8 := IntWalk.i64_in _ (by omega)
    have hmk := run_make_room (t := 23) (e := 5) Try.underlying23 info_u8 s.size 8 (by omega) ((s.size : Int) + 8) (by omega)
    have hq : (s.toList == s.toList) = true := by simp
    have y1 : (0 : Int) ≤ (s.size : Int) + 8 := by omega
    have y2 : (s.size : Int) + 8 ≤ ((s.size + 8 : Nat) : Int) := by omega
    have hn4 : (sealL (bytesOf s)).length ≤ 6000 := by rw [sealL_length, bytesOf_length]; omega
    have y3 : ((s.size : Int) + 8).toNat = s.size + 8 := by omega
    go_enter Try.func7, Try.ntmps7
    go_wp2_with (first | (go_at_call 9; refine (awake_true _).mono ?_; rintro e w1 ⟨rfl, hb⟩; have HB1 := Aside0.mk hb; obtain ⟨w2, hcp, ho2, hr2⟩ := copy_room (W := w1.alloc (.cells (madeCells #[.int .u8 0] (s.size + 8)) 5)) 23 9 5 3 Try.underlying23 sz_u8 (g := w1.heap.size) (c := s.size + 8) (M := 8) (s := s) (blk_new _ _) (by omega); have HB2 := Aside0.mk (ho2.below (below_alloc hb _) hb.size (by have := hb.size; have := (below_alloc (Below.refl w1.heap.size w1) (.cells (madeCells #[.int .u8 0] (s.size + 8)) 5)).size; omega)); have HR2 := Aside0.mk hr2; have HG := Aside0.mk hb.size; clear hb ho2 hr2) | (go_at_call 14; refine (seal2 HR2.out.reads (by omega) h1).mono ?_; rintro e w3 ⟨bs, cs, rfl, q1, q2, q3, q4, q5, q6⟩; have HB3 := Aside0.mk (below_step HB2.out q6); have HR3 := Aside0.mk (HR2.out.other (q6.block _ HR2.out.lt) q6.size); have HS1 := Aside0.mk q1; have HS2 := Aside0.mk q2; have HS3 := Aside0.mk q3; have HS4 := Aside0.mk q4; have HS5 := Aside0.mk q5; clear q1 q2 q3 q4 q5 q6))
    go_loop [6] (fun i => ZRel s.size 8 i) (fun i => s.size + 8 - (intOf i).toNat)
    case atStart => exact ⟨s.size, Nat.le_refl _, by omega, rfl⟩
    case round =>
      obtain ⟨k, hk1, hk2, rfl⟩ := hrel
      by_cases hlt : k < s.size + 8
      · have hz := HR3.out.zeros k hk1 hlt
        go_wp2
        go_round
        case rel => exact ⟨k + 1, by omega, by omega, by go_num⟩
        case measure => first | (simp [intOf]; done) | (simp [intOf]; omega) | (simp [intOf] at *; omega) | skip
      · go_wp2_with (first | (go_at_call 11; have _q := HX; refine (open2 (Kd.C_below HS5.out HXB.out) HS3.out h1).mono ?_; rintro e w5 ⟨Ay, cy, bY, rfl, q1, q2, q3, q4, q5⟩; have HB5 := Aside0.mk (below_step HB4.out q5); have HY := Aside0.mk q1; have HY2 := Aside0.mk q2; have HY3 := Aside0.mk q3; have HYB := Aside0.mk q5; clear q1 q2 q3 q4 q5) | (go_at_call 11; refine (open2 HS5.out HS3.out h1).mono ?_; rintro e w4 ⟨Ax, cx, bX, rfl, q1, q2, q3, q4, q5⟩; have HB4 := Aside0.mk (below_step HB3.out q5); have HX := Aside0.mk q1; have HX2 := Aside0.mk q2; have HX3 := Aside0.mk q3; have HX4 := Aside0.mk q4; have HXB := Aside0.mk q5; clear q1 q2 q3 q4 q5))
        have HW5 : Aside0 (Bytes w5 bX s.size) := ⟨fun j hj => HX4.out.other (HYB.out.block bX (HX2.out (by omega)).2) j hj⟩
        go_loopw [62] (fun i wr => WRel w5 bX s.size i wr) (fun i _ => s.size - (intOf i).toNat)
        case atStart => exact ⟨0, Nat.zero_le _, rfl, OnlyB.refl _ _, HW5.out⟩
        case round =>
          obtain ⟨k2, hk3, rfl, hO, hBy⟩ := hrel
          by_cases hlt2 : k2 < s.size
          · obtain rfl := (HX2.out (by omega)).1
            obtain ⟨⟨v, hv⟩, hf⟩ := hBy k2 hlt2
            have HO := Aside0.mk hO
            have HBy := Aside0.mk hBy
            clear hO hBy
            go_wp2
            go_roundw
            case rel => exact ⟨k2 + 1, by omega, by go_num, HO.out.set _ _, HBy.out.set _ _⟩
            case measure => first | (simp [intOf]; done) | (simp [intOf]; omega) | (simp [intOf] at *; omega) | skip
          · have hz3 : w2.heap.size ≤ w3.heap.size := by have := HS1.out; have := HS2.out; omega
            have hz4 : w3.heap.size ≤ w4.heap.size := HXB.out.size
            have hz5 : w4.heap.size ≤ w5.heap.size := HYB.out.size
            have hgl := HR2.out.lt
            have hbs1 := HS1.out
            have hbs2 := HS2.out
            have hbx1 := HX3.out
            have hby1 := HY3.out
            have hw := HG.out
            have HBr := Aside0.mk (hO.below HB5.out (by omega) HB5.out.size)
            have HRr := Aside0.mk (((HR3.out.other (HXB.out.block _ (by omega)) HXB.out.size).other (HYB.out.block _ (by omega)) HYB.out.size).other (hO.block _ (by omega) (by omega)) hO.size)
            have HSr : Aside0 (Bytes wr bs (sealL (bytesOf s)).length) := ⟨((HS4.out.other (HXB.out.block _ (by omega))).other (HYB.out.block _ (by omega))).other (hO.block _ (by omega) (by omega))⟩
            have HYr : Aside0 ((Kd.int .u8).C wr Ay (bytesOf s).length (bytesOf s)) := ⟨C_keep HY.out fun h0 ad e => by
              rw [bytesOf_length] at h0
              obtain ⟨e1, e2⟩ := HY2.out h0
              rw [e1] at e
              injection e with e
              subst e
              exact hO.block _ e2 (by have := (HX2.out h0).2; simp only; omega)⟩
            have hOs := hO.size
            clear hO hBy
            go_wp2
            go_loopw [74] (fun i wq => WRel wr bs (sealL (bytesOf s)).length i wq) (fun i _ => (sealL (bytesOf s)).length - (intOf i).toNat)
            case atStart => exact ⟨0, Nat.zero_le _, rfl, OnlyB.refl _ _, HSr.out⟩
            case round =>
              obtain ⟨k4, hk4, rfl, hO2, hBy2⟩ := hrel
              by_cases hlt4 : k4 < (sealL (bytesOf s)).length
              · obtain ⟨⟨v, hv⟩, hf⟩ := hBy2 k4 hlt4
                have HO := Aside0.mk hO2
                have HBy := Aside0.mk hBy2
                clear hO2 hBy2
                go_wp2
                go_roundw
                case rel => exact ⟨k4 + 1, by omega, by go_num, HO.out.set _ _, HBy.out.set _ _⟩
                case measure => first | (simp [intOf]; done) | (simp [intOf]; omega) | (simp [intOf] at *; omega) | skip
              · have hr1 := conv2 (c := s.size + 8) (HRr.out.other (hO2.block _ (by omega) (by omega)) hO2.size).reads
                have hr2 := conv2 (w := wr) (c := cy) (C_keep (w' := wr) HYr.out fun h0 ad e => by
                  rw [bytesOf_length] at h0
                  obtain ⟨e1, e2⟩ := HY2.out h0
                  rw [e1] at e
                  injection e with e
                  subst e
                  exact hO2.block _ (show bY < _ by omega) (show bY ≠ bs by omega))
                have HBq := Aside0.mk (hO2.below HBr.out (by omega) HBr.out.size)
                clear hO2 hBy2
                go_wp2
                go_ret
                exact ⟨rfl, HBq.out⟩
  · have t1 : decide (5000 < (s.size : Int)) = true := decide_eq_true (by omega)
    go_enter Try.func7, Try.ntmps7
    go_wp2_with (first | (go_at_call 9; refine (awake_true _).mono ?_; rintro e w1 ⟨rfl, hb⟩; (first | (have n_ := Aside0.mk (below_step HB.out hb); clear HB; have HB := n_; clear n_) | have HB := Aside0.mk hb); clear hb))
    go_ret
    exact ⟨rfl, HB.out⟩
end Go.Proofs.Ytcjifdgbammocaa.Hand
