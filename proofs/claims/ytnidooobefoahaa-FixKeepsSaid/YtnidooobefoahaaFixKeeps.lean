/- The walk of FixKeeps. -/
import Derived.Test.YtnidooobefoahaaOps
import Derived.Test.YtnidooobefoahaaRefReader
import Derived.Test.YtnidooobefoahaaRoom
import Derived.Test.YtnidooobefoahaaFixWidth
import Derived.Test.YtnidooobefoahaaWLast
import Derived.Test.YtnidooobefoahaaWTab
namespace Go.Proofs.Ytnidooobefoahaa.Hand
open Go.RowKit Go.Proofs.Ytnidooobefoahaa.Sp Go.Proofs.Ytnidooobefoahaa.Room Go.Proofs.Ytnidooobefoahaa.Pure Go.Proofs.YtnidooobefoahaaW.PrintWords Go.Proofs.YtnidooobefoahaaW.PrintLast Go.Proofs.YtnidooobefoahaaW.PrintMore
set_option linter.unusedVariables false
set_option linter.unusedSimpArgs false
def PutO (W : World) (l : List Int) (e : Ending) (w' : World) : Prop := ∃ bx c, e = .returned (.slice (some ⟨bx, 0, none⟩) l.length c) ∧ W.heap.size ≤ bx ∧ bx < w'.heap.size ∧ Bytes w' bx l.length ∧ (Kd.int .u8).C w' (some ⟨bx, 0, none⟩) l.length l ∧ Below W.heap.size W w'
theorem putO {W w' : World} {l : List Int} {e : Ending} (h : PutOut W l e w') (hl : 0 < l.length) : PutO W l e w' := by
  obtain ⟨A, c, rfl, hR, hC, hle, hb⟩ := h
  obtain ⟨b, rfl, h1, h2, h3⟩ := R_at hR hl
  exact ⟨b, c, rfl, h1, h2, h3, hC, hb⟩
theorem sz_u8 (w : World) : (Go.sizeOf 5).run Try.prog w = .ok 1 w := by
  obtain ⟨i, hi, hzz⟩ := Option.map_eq_some_iff.1 info_u8
  simp only [Prod.mk.injEq] at hzz
  simp [sizeOf, typeInfo, hi, hzz.2.1]
def ZRel (n m : Nat) (i : Value) : Prop := ∃ k : Nat, n ≤ k ∧ k ≤ n + m ∧ i = .int .i64 (k : Int)
/-- A row is being written. -/
def WRel (w : World) (b n : Nat) (i : Value) (wr : World) : Prop := ∃ k : Nat, k ≤ n ∧ i = .int .i64 (k : Int) ∧ OnlyB w wr b ∧ Bytes wr b n
theorem only_of {w w' : World} {g : Nat} (h : OnlyB w w' g) : Only w w' g := ⟨h.os, h.tape, h.output, h.size, h.block⟩
theorem bytes_own (w : World) (s : ByteArray) : Bytes (Lib.bytesWorld w 5 s) w.heap.size s.size := by
  intro j hj
  refine ⟨⟨_, Lib.bytesWorld_cell w _ s j hj⟩, ?_⟩
  have h := Lib.bytesWorld_at_new w 5 s
  have hc : s.size ≤ (Lib.bytesCells w 5 s).size := by
    unfold Lib.bytesCells
    rw [Array.size_append, Array.size_map]
    have : s.data.size = s.size := rfl
    omega
  simp only [World.frozen?, h]
  simp
  omega
def most (b s : ByteArray) (n : Int) : Prop := True
theorem conv_b {w : World} {g c : Nat} {s : ByteArray} {M : Nat} (h : RoomB w g s M) : (convert 23 9 (.slice (some ⟨g, 0, none⟩) s.size c)).run Try.prog w = .ok (.string s) w := by
  have := Kd.C_string (c := c) Try.underlying23 Try.underlying5 Try.underlying9 h.reads
  rwa [bytesOf_length, str_bytes] at this
theorem keeps_puts {W : World} {g : Nat} {b : ByteArray} (h : RoomB W g b 2000) (hb : b.size ≤ 1000) (n : Int) :
    Calls Try.prog 11 #[.slice (some ⟨g, 0, none⟩) b.size (b.size + 2000), .int .i64 n] W (PutO W (bytesOf b ++ bigE n 2)) ∧
    Calls Try.prog 12 #[.slice (some ⟨g, 0, none⟩) b.size (b.size + 2000), .int .i64 n] W (PutO W (bytesOf b ++ bigE n 4)) ∧
    ∀ s : ByteArray, s.size ≤ 1000 → Calls Try.prog 14 #[.slice (some ⟨g, 0, none⟩) b.size (b.size + 2000), .string s] W (PutO W (bytesOf b ++ textE s)) := by
  have h1 := Put16_any (c0 := b.size + 2000) n h.reads (by rw [bytesOf_length]; omega) (by rw [bytesOf_length]; omega)
  have h2 := Put32_any (c0 := b.size + 2000) n h.reads (by rw [bytesOf_length]; omega) (by rw [bytesOf_length]; omega)
  have h3 := fun (s : ByteArray) (hs : s.size ≤ 1000) => PutText_any (c0 := b.size + 2000) s (by omega) h.reads (by rw [bytesOf_length]; omega) (by rw [bytesOf_length]; omega)
  rw [bytesOf_length] at h1 h2
  refine ⟨h1.mono fun e w' h => putO h (by simp [bigE]), h2.mono fun e w' h => putO h (by simp [bigE]), fun s hs => ?_⟩
  have := h3 s hs
  rw [bytesOf_length] at this
  exact this.mono fun e w' h => putO h (by simp [textE, bigE]; omega)
theorem textE_le (s : ByteArray) : (textE s).length ≤ s.size + 2 := by
  unfold textE
  have h := cut_size s
  unfold mn at h
  rw [List.length_append, bigE_length, bytesOf_length]
  split at h <;> omega
-- WALK
def fixkeeps_T : Bool × List (List Nat × List Nat) := (true, [([], []), ([0], [0]), ([], []), ([1, 2], [1, 2]), ([3], [3]), ([4], [4]), ([5, 4], [4, 5]), ([4], [4]), ([4], [4]), ([8, 4, 4], [4, 8]), ([7, 9, 4], [4, 7, 9]), ([6, 10, 4], [4, 6, 10]), ([4, 11], [4, 11]), ([12, 9], [12]), ([13], [13]), ([14, 13, 13], [13, 14]), ([13], [13]), ([16, 15, 13], [13, 16]), ([15, 17, 13], [13, 15, 17]), ([13, 18], [13, 18]), ([19, 17, 0, 1, 2, 3, 4, 5, 6, 7, 8, 9, 10, 11, 12, 13, 14, 15, 16, 17, 18, 19], [19])])
def fixkeeps_B : List Nat := [0, 1, 0, 7, 15, 31, 63, 31, 31, 287, 927, 2047, 4095, 8191, 16383, 32767, 16383, 131071, 262143, 524287, 1048575]
theorem fixkeeps_tab : rtab .any (opsOf Try.f5 32) = fixkeeps_T := by kernel_rfl
theorem fixkeeps_bits : waitsOk fixkeeps_T.2 fixkeeps_B = true := by kernel_rfl
theorem conv_l {w : World} {A : Option Addr} {c : Nat} {lz : List Int} {x : ByteArray} (h : (Kd.int .u8).C w A lz.length lz) (hx : strOfNums lz = x) : (convert 23 9 (.slice A lz.length c)).run Try.prog w = .ok (.string x) w := by
  have := Kd.C_string (c := c) Try.underlying23 Try.underlying5 Try.underlying9 h
  rwa [hx] at this
theorem conv_z {w : World} {A : Option Addr} {c : Nat} {l m : List Int} {x : ByteArray} (h : (Kd.int .u8).C w A (l ++ m).length (l ++ m)) (hx : strOfNums (l ++ m) = x) : (convert 23 9 (.slice A (l.length + m.length) c)).run Try.prog w = .ok (.string x) w := by
  have := conv_l (c := c) h hx
  rwa [List.length_append] at this
set_option maxHeartbeats 8000000 in
set_option maxRecDepth 100000 in
theorem keeps_walk (b s : ByteArray) (n : Int) (w : World) (hb0 : b.size ≤ 140737488351232) (hs0 : s.size ≤ 140737488351232) : Calls Try.prog 5 #[.string b, .string s, .int .i64 n] w fun e w' => e = .returned (.bool true) ∧ Below w.heap.size w w' := by
  by_cases h1 : b.size ≤ 1000
  · have t1 : decide (1000 < (b.size : Int)) = false := decide_eq_false (by omega)
    by_cases h2 : s.size ≤ 1000
    · have t2 : decide (1000 < (s.size : Int)) = false := decide_eq_false (by omega)
      have hw8 : IntKind.i64.wrap ((b.size : Int) + 2000) = (b.size : Int) + 2000 := IntWalk.i64_in _ (by omega)
      have hmk := run_make_room (t := 23) (e := 5) Try.underlying23 info_u8 b.size 2000 (by omega) ((b.size : Int) + 2000) (by omega)
      have y1 : (0 : Int) ≤ (b.size : Int) + 2000 := by omega
      have y2 : (b.size : Int) + 2000 ≤ ((b.size + 2000 : Nat) : Int) := by omega
      have y3 : ((b.size : Int) + 2000).toNat = b.size + 2000 := by omega
      have hcv := cvb_run s
      have HPT := Aside0.mk (fun (W : World) (g : Nat) (h : RoomB W g b 2000) => keeps_puts h h1 n)
      have HX : Aside0 (strOfNums (bytesOf b ++ textE s) = b ++ strOfNums (textE s)) := ⟨by rw [str_append, str_bytes]⟩
      have hl16 : (bytesOf b ++ bigE n 2).length ≤ 5000 := by simp [bytesOf_length, bigE]; omega
      have hl32 : (bytesOf b ++ bigE n 4).length ≤ 5000 := by simp [bytesOf_length, bigE]; omega
      have hsum : b.size + (strOfNums (textE s)).size ≤ 9223372036854775807 := by
        rw [str_size]
        have := textE_le s
        omega
      have HT : Aside0 (∀ W, Calls Try.prog 15 #[.string s] W fun e w' => e = .returned (.string (strOfNums (textE s))) ∧ Below W.heap.size W w') := ⟨fun W => sapwoodref01_Text.calls 3 s _ W (text_f s (by omega) 3 (by omega))⟩
      generalize bytesOf b ++ bigE n 2 = L16 at HPT hl16
      generalize bytesOf b ++ bigE n 4 = L32 at HPT hl32
      go_enter Try.func5, Try.ntmps5
      go_wp2_with (first | (go_at_call 10; refine (awake_true _).mono ?_; rintro e w1 ⟨rfl, hb⟩; have HB1 := Aside0.mk hb; obtain ⟨w2, hcp, ho2, hr2⟩ := copy_room (W := w1.alloc (.cells (madeCells #[.int .u8 0] (b.size + 2000)) 5)) 23 9 5 3 Try.underlying23 sz_u8 (g := w1.heap.size) (c := b.size + 2000) (M := 2000) (s := b) (blk_new _ _) (by omega); have HB2 := Aside0.mk (ho2.below (below_alloc hb _) hb.size (by have := hb.size; have := (below_alloc (Below.refl w1.heap.size w1) (.cells (madeCells #[.int .u8 0] (b.size + 2000)) 5)).size; omega)); have HR2 := Aside0.mk hr2; have HG := Aside0.mk hb.size; clear hb ho2 hr2) | (go_at_call 11; refine ((HPT.out _ _ HR2.out).1).mono ?_; rintro e w3 ⟨bx, cx, rfl, q1, q2, q3, q4, q5⟩; have HB3 := Aside0.mk (below_step HB2.out q5); have HR3 := Aside0.mk (HR2.out.other (q5.block _ HR2.out.lt) q5.size); have HP1 := Aside0.mk q1; have HP2 := Aside0.mk q2; have HP3 := Aside0.mk q3; clear q1 q2 q3 q4 q5) | (go_at_call 12; refine ((HPT.out _ _ HR3.out).2.1).mono ?_; rintro e w4 ⟨bY, cy, rfl, q1, q2, q3, q4, q5⟩; have HB4 := Aside0.mk (below_step HB3.out q5); have HR4 := Aside0.mk (HR3.out.other (q5.block _ HR3.out.lt) q5.size); have HP4 := Aside0.mk (HP3.out.other (q5.block _ HP2.out)); have HY1 := Aside0.mk q1; have HY2 := Aside0.mk q2; have HY3 := Aside0.mk q3; clear q1 q2 q3 q4 q5) | (go_at_call 14; refine ((HPT.out _ _ HR4.out).2.2 s h2).mono ?_; rintro e w5 ⟨bz, cz, rfl, q1, q2, q3, q4, q5⟩; have HB5 := Aside0.mk (below_step HB4.out q5); have HR5 := Aside0.mk (HR4.out.other (q5.block _ HR4.out.lt) q5.size); have HP5 := Aside0.mk (HP4.out.other (q5.block _ (Nat.lt_of_lt_of_le HP2.out (Nat.le_trans HY1.out (Nat.le_of_lt HY2.out))))); have HY5 := Aside0.mk (HY3.out.other (q5.block _ HY2.out)); have HZ1 := Aside0.mk q1; have HZ2 := Aside0.mk q2; have HZ5 := Aside0.mk q4; clear q1 q2 q3 q4 q5))
      go_loop [12] (fun i => ZRel b.size 2000 i) (fun i => b.size + 2000 - (intOf i).toNat)
      case atStart => exact ⟨b.size, Nat.le_refl _, by omega, rfl⟩
      case round =>
        obtain ⟨k, hk1, hk2, rfl⟩ := hrel
        by_cases hlt : k < b.size + 2000
        · have hz := HR5.out.zeros k hk1 hlt
          go_wp2
          go_round
          case rel => exact ⟨k + 1, by omega, by omega, by go_num⟩
          case measure => first | (simp [intOf]; done) | (simp [intOf]; omega)
        · go_wp2
          have HST := HP5
          have e1 := HR2.out.lt
          have e2 := HP1.out
          have e3 := HP2.out
          have e4 := HY1.out
          have e5 := HY2.out
          have e6 := HZ1.out
          have e7 := HZ2.out
          have e0 := HG.out
          go_loopw [70] (fun i wq => WRel w5 bx L16.length i wq) (fun i _ => L16.length - (intOf i).toNat)
          case atStart => exact ⟨0, Nat.zero_le _, rfl, OnlyB.refl _ _, HST.out⟩
          case round =>
            obtain ⟨k4, hk4, rfl, hO2, hBy2⟩ := hrel
            by_cases hlt4 : k4 < L16.length
            · obtain ⟨⟨v, hv⟩, hf⟩ := hBy2 k4 hlt4
              have HO := Aside0.mk hO2
              have HBy := Aside0.mk hBy2
              clear hO2 hBy2
              go_wp2
              go_roundw
              case rel => exact ⟨k4 + 1, by omega, by go_num, HO.out.set _ _, HBy.out.set _ _⟩
              case measure => first | (simp [intOf]; done) | (simp [intOf]; omega)
            · have HB6 := Aside0.mk (hO2.below HB5.out (by omega) HB5.out.size)
              have HR6 := Aside0.mk (HR5.out.other (hO2.block _ (by omega) (by omega)) hO2.size)
              have HZ6 := Aside0.mk (C_keep (w' := wr) HZ5.out fun _ ad e => by injection e with e; subst e; exact hO2.block _ (show bz < _ by omega) (show bz ≠ bx by omega))
              have HST : Aside0 (Bytes wr bY L32.length) := ⟨HY5.out.other (hO2.block _ (by omega) (by omega))⟩
              have e8 := hO2.size
              clear hO2 hBy2
              go_wp2
              go_loopw [82] (fun i wq => WRel wr bY L32.length i wq) (fun i _ => L32.length - (intOf i).toNat)
              case atStart => exact ⟨0, Nat.zero_le _, rfl, OnlyB.refl _ _, HST.out⟩
              case round =>
                obtain ⟨k4, hk4, rfl, hO2, hBy2⟩ := hrel
                by_cases hlt4 : k4 < L32.length
                · obtain ⟨⟨v, hv⟩, hf⟩ := hBy2 k4 hlt4
                  have HO := Aside0.mk hO2
                  have HBy := Aside0.mk hBy2
                  clear hO2 hBy2
                  go_wp2
                  go_roundw
                  case rel => exact ⟨k4 + 1, by omega, by go_num, HO.out.set _ _, HBy.out.set _ _⟩
                  case measure => first | (simp [intOf]; done) | (simp [intOf]; omega)
                · have HB7 := Aside0.mk (hO2.below HB6.out (by omega) HB6.out.size)
                  have HR7 := Aside0.mk (HR6.out.other (hO2.block _ (by omega) (by omega)) hO2.size)
                  have HZ7 := Aside0.mk (C_keep (w' := wr) HZ6.out fun _ ad e => by injection e with e; subst e; exact hO2.block _ (show bz < _ by omega) (show bz ≠ bY by omega))
                  have e9 := hO2.size
                  clear hO2 hBy2
                  rename World => w7
                  have hcb := cvb_below s (Below.refl w7.heap.size w7) (Nat.le_refl _)
                  have hcs := Lib.bytesWorld_size w7 5 s
                  have HCB := Aside0.mk hcb
                  have HRc := Aside0.mk (HR7.out.other (hcb.block _ (by omega)) hcb.size)
                  have HZc := Aside0.mk (Kd.C_below HZ7.out hcb)
                  have HOc := Aside0.mk (bytes_own w7 s)
                  have HT8 := Aside0.mk (fun (W : World) (B g : Nat) (h : Rd W B g (bytesOf s) ⟨0, 0⟩) => Take8_any h)
                  have HT1 := Aside0.mk (fun (W : World) (g : Nat) (h : Rf W g s ⟨0, 0⟩) => RTake_any h 1 (by omega))
                  generalize rNum (bytesOf s) ⟨0, 0⟩ 1 = rn at HT8 HT1
                  obtain ⟨X, sX⟩ := rn
                  clear hcb
                  go_wp2_with (go_at_call 16; refine (Read_any (cvb_reads s (by omega) _) (cvb_cap s _) (by rw [bytesOf_length]; omega) (bytesOf_by s)).mono ?_; rintro e w8 ⟨gr, rfl, hb, hr⟩; have HB8 := Aside0.mk (below_step (below_step HB7.out HCB.out) hb); have HR8 := Aside0.mk (HRc.out.other (hb.block _ HRc.out.lt) hb.size); have HZ8 := Aside0.mk (Kd.C_below HZc.out hb); have HO8 := Aside0.mk (HOc.out.other (hb.block _ (by omega))); obtain ⟨bs, hbs, hr'⟩ : ∃ bs, w7.heap.size < bs ∧ Rd w8 bs gr (bytesOf s) ⟨0, 0⟩ := ⟨_, by omega, hr⟩; have HD8 := Aside0.mk hr'; have hb8 := hb.size; clear hb hr hr')
                  have HST : Aside0 (Bytes w8 w7.heap.size (bytesOf s).length) := ⟨by rw [bytesOf_length]; exact HO8.out⟩
                  have hls : (bytesOf s).length ≤ 1000 := by rw [bytesOf_length]; exact h2
                  go_loopw [98] (fun i wq => WRel w8 w7.heap.size (bytesOf s).length i wq) (fun i _ => (bytesOf s).length - (intOf i).toNat)
                  case atStart => exact ⟨0, Nat.zero_le _, rfl, OnlyB.refl _ _, HST.out⟩
                  case round =>
                    obtain ⟨k4, hk4, rfl, hO2, hBy2⟩ := hrel
                    by_cases hlt4 : k4 < (bytesOf s).length
                    · obtain ⟨⟨v, hv⟩, hf⟩ := hBy2 k4 hlt4
                      have HO := Aside0.mk hO2
                      have HBy := Aside0.mk hBy2
                      clear hO2 hBy2
                      go_wp2
                      go_roundw
                      case rel => exact ⟨k4 + 1, by omega, by go_num, HO.out.set _ _, HBy.out.set _ _⟩
                      case measure => first | (simp [intOf]; done) | (simp [intOf]; omega)
                    · have HB9 := Aside0.mk (hO2.below HB8.out (by omega) HB8.out.size)
                      have HR9 := Aside0.mk (HR8.out.other (hO2.block _ (by omega) (by omega)) hO2.size)
                      have HZ9 := Aside0.mk (C_keep (w' := wr) HZ8.out fun _ ad e => by injection e with e; subst e; exact hO2.block _ (show bz < _ by omega) (show bz ≠ w7.heap.size by omega))
                      have HD9 := Aside0.mk (HD8.out.other (only_of hO2) (Or.inl hbs))
                      have ea := hO2.size
                      clear hO2 hBy2
                      rename World => w9
                      have hbD : Below w9.heap.size w9 (w9.alloc (.cells #[.string s, .int .i64 0, .int .i64 0] 34)).drew := below_drew (below_alloc (Below.refl _ _) _)
                      have HB8 := Aside0.mk (below_step HB9.out hbD)
                      have HR8 := Aside0.mk (HR9.out.other (hbD.block _ HR9.out.lt) hbD.size)
                      have HZD := Aside0.mk (Kd.C_below HZ9.out hbD)
                      have HZ8 := Aside0.mk (conv_z (c := cz) HZD.out HX.out)
                      have HD8 := Aside0.mk (HD9.out.below hbD)
                      have HF8 : Aside0 (Rf (w9.alloc (.cells #[.string s, .int .i64 0, .int .i64 0] 34)).drew w9.heap.size s ⟨0, 0⟩) := ⟨(⟨blk_new _ _, Nat.zero_le _, by omega⟩ : Rf (w9.alloc (.cells #[.string s, .int .i64 0, .int .i64 0] 34)) w9.heap.size s ⟨0, 0⟩).below (below_drew (Below.refl _ _))⟩
                      have HGR : Aside0 (w9.heap.size ≠ gr) := ⟨by have := HD9.out.lt; omega⟩
                      have HG1 : Aside0 (w.heap.size ≤ gr) := ⟨by have := HD9.out.base; omega⟩
                      have HG2 : Aside0 (w.heap.size ≤ w9.heap.size) := ⟨HB9.out.size⟩
                      clear hbD
                      go_wp2
                      refine start_ (n := 21) (S := fun _ => True) (ds := []) #[false, false, false, false, false, false, false, false, false, false, false, false, false, false, false, false, false, false, false, false, false] (by kernel_rfl) rfl rfl trivial (fun hHeld => ?_)
                      clear hHeld
                      refine with_tabW fixkeeps_tab fixkeeps_bits (fun HT_ HW_ => ?_)
                      refine pure_ (i := 0) (N := (some 111)) (v := ?_) (a' := ?_) #[true, false, false, false, false, false, false, false, false, false, false, false, false, false, false, false, false, false, false, false, false] rfl rfl (any_of HT_.out (by kernel_rfl)) (fun _ _ _ h => h) (Or.inl ⟨by rfl, ?_⟩) ?_ ?_
                      rotate_left
                      · intro w'
                        go_simp
                        with_reducible rfl
                      rotate_left
                      · simp only [Act.put, List.setIfInBounds_toArray, List.set_cons_zero, List.set_cons_succ, i64_w, i32_w]
                        rfl
                      refine pure_ (i := 2) (N := (some 113)) (v := ?_) (a' := ?_) #[true, false, true, false, false, false, false, false, false, false, false, false, false, false, false, false, false, false, false, false, false] rfl rfl (any_of HT_.out (by kernel_rfl)) (fun _ _ _ h => h) (Or.inl ⟨by rfl, ?_⟩) ?_ ?_
                      rotate_left
                      · intro w'
                        go_simp
                        with_reducible rfl
                      rotate_left
                      · simp only [Act.put, List.setIfInBounds_toArray, List.set_cons_zero, List.set_cons_succ, i64_w, i32_w]
                        rfl
                      refine one_ (i := 1) (N := (some 112)) #[true, true, true, false, false, false, false, false, false, false, false, false, false, false, false, false, false, false, false, false, false] rfl rfl (one_of HT_.out (by kernel_rfl)) (by decide) (fun K hK => ?_)
                      refine value_ (w1 := _) (v := .string b) (by rfl) rfl (run_conv_op 23 9 (.tmp 111) rfl _ rfl (conv_b (c := b.size + 2000) HR8.out)) ?_
                      refine hK.out _ _ trivial (fun _ => ?_)
                      clear hK K
                      try simp only [Act.put, List.setIfInBounds_toArray, List.set_cons_zero, List.set_cons_succ]
                      refine pure_ (i := 3) (N := (some 114)) (v := ?_) (a' := ?_) #[true, true, true, true, false, false, false, false, false, false, false, false, false, false, false, false, false, false, false, false, false] rfl rfl (any_of HT_.out (by kernel_rfl)) (fun _ _ _ h => h) (Or.inl ⟨by rfl, ?_⟩) ?_ ?_
                      rotate_left
                      · intro w'
                        go_simp
                        with_reducible rfl
                      rotate_left
                      · simp only [Act.put, List.setIfInBounds_toArray, List.set_cons_zero, List.set_cons_succ, i64_w, i32_w]
                        rfl
                      refine pure_ (i := 4) (N := (some 115)) (v := ?_) (a' := ?_) #[true, true, true, true, true, false, false, false, false, false, false, false, false, false, false, false, false, false, false, false, false] rfl rfl (any_of HT_.out (by kernel_rfl)) (fun _ _ _ h => h) (Or.inl ⟨by rfl, ?_⟩) ?_ ?_
                      rotate_left
                      · intro w'
                        go_simp
                        with_reducible rfl
                      rotate_left
                      · simp only [Act.put, List.setIfInBounds_toArray, List.set_cons_zero, List.set_cons_succ, i64_w, i32_w]
                        rfl
                      refine pure_ (i := 5) (N := (some 116)) (v := ?_) (a' := ?_) #[true, true, true, true, true, true, false, false, false, false, false, false, false, false, false, false, false, false, false, false, false] rfl rfl (any_of HT_.out (by kernel_rfl)) (fun _ _ _ h => h) (Or.inl ⟨by rfl, ?_⟩) ?_ ?_
                      rotate_left
                      · intro w'
                        go_simp
                        with_reducible rfl
                      rotate_left
                      · simp only [Act.put, List.setIfInBounds_toArray, List.set_cons_zero, List.set_cons_succ, i64_w, i32_w]
                        rfl
                      refine pure_ (i := 7) (N := (some 118)) (v := ?_) (a' := ?_) #[true, true, true, true, true, true, false, true, false, false, false, false, false, false, false, false, false, false, false, false, false] rfl rfl (any_of HT_.out (by kernel_rfl)) (fun _ _ _ h => h) (Or.inl ⟨by rfl, ?_⟩) ?_ ?_
                      rotate_left
                      · intro w'
                        go_simp
                        with_reducible rfl
                      rotate_left
                      · simp only [Act.put, List.setIfInBounds_toArray, List.set_cons_zero, List.set_cons_succ, i64_w, i32_w]
                        rfl
                      refine pure_ (i := 8) (N := (some 119)) (v := ?_) (a' := ?_) #[true, true, true, true, true, true, false, true, true, false, false, false, false, false, false, false, false, false, false, false, false] rfl rfl (any_of HT_.out (by kernel_rfl)) (fun _ _ _ h => h) (Or.inl ⟨by rfl, ?_⟩) ?_ ?_
                      rotate_left
                      · intro w'
                        go_simp
                        with_reducible rfl
                      rotate_left
                      · simp only [Act.put, List.setIfInBounds_toArray, List.set_cons_zero, List.set_cons_succ, i64_w, i32_w]
                        rfl
                      refine two_ (i := 6) (j := 9) (Ni := (some 117)) (Nj := (some 120)) #[true, true, true, true, true, true, true, true, true, false, false, false, false, false, false, false, false, false, false, false, false] #[true, true, true, true, true, true, false, true, true, true, false, false, false, false, false, false, false, false, false, false, false] rfl rfl rfl rfl (two_of HT_.out (by kernel_rfl)) (by decide) (by decide) (fun K hK => ?_) (fun K hK => ?_)
                      · refine value_ (w1 := _) (v := .string (b ++ strOfNums (textE s))) (by rfl) rfl (run_conv_op 23 9 (.tmp 116) rfl _ rfl (HZ8.out)) ?_
                        refine hK.out _ _ trivial (fun _ => ?_)
                        clear hK K
                        try simp only [Act.put, List.setIfInBounds_toArray, List.set_cons_zero, List.set_cons_succ]
                        refine one_ (i := 9) (N := (some 120)) #[true, true, true, true, true, true, true, true, true, true, false, false, false, false, false, false, false, false, false, false, false] rfl rfl (one_of HT_.out (by kernel_rfl)) (by decide) (fun K hK => ?_)
                        refine goes_ Try.func15 (by kernel_rfl) rfl #[.string s] (by rfl) rfl rfl (by first | rfl | (simp only [List.map_toArray, List.map_cons, List.map_nil]; rfl)) ?_
                        refine (HT.out _).mono ?_
                        rintro e wt ⟨rfl, hb⟩
                        refine ⟨_, rfl, ?_⟩
                        have HD9 := Aside0.mk (HD8.out.below hb)
                        have HF9 := Aside0.mk (HF8.out.below hb)
                        have HB9 := Aside0.mk (below_step HB8.out hb)
                        have HZ9 := Aside0.mk (conv_z (c := cz) (Kd.C_below HZD.out hb) HX.out)
                        clear hb
                        refine hK.out _ _ trivial (fun _ => ?_)
                        clear hK K
                        try simp only [Act.put, List.setIfInBounds_toArray, List.set_cons_zero, List.set_cons_succ]
                        refine one_ (i := 10) (N := (some 121)) #[true, true, true, true, true, true, true, true, true, true, true, false, false, false, false, false, false, false, false, false, false] rfl rfl (one_of HT_.out (by kernel_rfl)) (by decide) (fun K hK => ?_)
                        refine value_ (w1 := wt) (v := .string (b ++ strOfNums (textE s))) (by rfl) rfl ?_ ?_
                        · go_simp
                          first | done | (rw [if_neg (by omega)]; done) | (rw [if_neg (by omega)]; rfl) | rfl
                        refine hK.out _ _ trivial (fun _ => ?_)
                        clear hK K
                        try simp only [Act.put, List.setIfInBounds_toArray, List.set_cons_zero, List.set_cons_succ]
                        refine pure_ (i := 11) (N := (some 122)) (v := ?_) (a' := ?_) #[true, true, true, true, true, true, true, true, true, true, true, true, false, false, false, false, false, false, false, false, false] rfl rfl (any_of HT_.out (by kernel_rfl)) (fun _ _ _ h => h) (Or.inl ⟨by rfl, ?_⟩) ?_ ?_
                        rotate_left
                        · intro w'
                          go_simp
                          with_reducible rfl
                        rotate_left
                        · simp only [Act.put, List.setIfInBounds_toArray, List.set_cons_zero, List.set_cons_succ, i64_w, i32_w]
                          rfl
                        refine pure_ (i := 12) (N := (some 123)) (v := ?_) (a' := ?_) #[true, true, true, true, true, true, true, true, true, true, true, true, true, false, false, false, false, false, false, false, false] rfl rfl (any_of HT_.out (by kernel_rfl)) (fun _ _ _ h => h) (Or.inl ⟨by rfl, ?_⟩) ?_ ?_
                        rotate_left
                        · intro w'
                          go_simp
                          with_reducible rfl
                        rotate_left
                        · simp only [Act.put, List.setIfInBounds_toArray, List.set_cons_zero, List.set_cons_succ, i64_w, i32_w]
                          rfl
                        refine pure_ (i := 13) (N := (some 124)) (v := ?_) (a' := ?_) #[true, true, true, true, true, true, true, true, true, true, true, true, true, true, false, false, false, false, false, false, false] rfl rfl (any_of HT_.out (by kernel_rfl)) (fun _ _ _ h => h) (Or.inl ⟨by rfl, ?_⟩) ?_ ?_
                        rotate_left
                        · intro w'
                          go_simp
                          with_reducible rfl
                        rotate_left
                        · simp only [Act.put, List.setIfInBounds_toArray, List.set_cons_zero, List.set_cons_succ, i64_w, i32_w]
                          rfl
                        refine pure_ (i := 14) (N := (some 125)) (v := ?_) (a' := ?_) #[true, true, true, true, true, true, true, true, true, true, true, true, true, true, true, false, false, false, false, false, false] rfl rfl (any_of HT_.out (by kernel_rfl)) (fun _ _ _ h => h) (Or.inl ⟨by rfl, ?_⟩) ?_ ?_
                        rotate_left
                        · intro w'
                          go_simp
                          with_reducible rfl
                        rotate_left
                        · simp only [Act.put, List.setIfInBounds_toArray, List.set_cons_zero, List.set_cons_succ, i64_w, i32_w]
                          rfl
                        refine pure_ (i := 16) (N := (some 127)) (v := ?_) (a' := ?_) #[true, true, true, true, true, true, true, true, true, true, true, true, true, true, true, false, true, false, false, false, false] rfl rfl (any_of HT_.out (by kernel_rfl)) (fun _ _ _ h => h) (Or.inl ⟨by rfl, ?_⟩) ?_ ?_
                        rotate_left
                        · intro w'
                          go_simp
                          with_reducible rfl
                        rotate_left
                        · simp only [Act.put, List.setIfInBounds_toArray, List.set_cons_zero, List.set_cons_succ, i64_w, i32_w]
                          rfl
                        refine one_ (i := 15) (N := (some 126)) #[true, true, true, true, true, true, true, true, true, true, true, true, true, true, true, true, true, false, false, false, false] rfl rfl (one_of HT_.out (by kernel_rfl)) (by decide) (fun K hK => ?_)
                        refine goes_ Try.func17 (by kernel_rfl) rfl #[.pointer (some ⟨gr, 0, none⟩)] (by rfl) rfl rfl (by first | rfl | (simp only [List.map_toArray, List.map_cons, List.map_nil]; rfl)) ?_
                        refine (HT8.out _ _ _ HD9.out).mono ?_
                        rintro e wa ⟨rfl, ho, hr⟩
                        refine ⟨_, rfl, ?_⟩
                        have HFa := Aside0.mk (HF9.out.other ho HGR.out)
                        have HBa := Aside0.mk (ho.below HB9.out HG1.out HB9.out.size)
                        clear ho hr
                        refine hK.out _ _ trivial (fun _ => ?_)
                        clear hK K
                        try simp only [Act.put, List.setIfInBounds_toArray, List.set_cons_zero, List.set_cons_succ]
                        refine one_ (i := 17) (N := (some 128)) #[true, true, true, true, true, true, true, true, true, true, true, true, true, true, true, true, true, true, false, false, false] rfl rfl (one_of HT_.out (by kernel_rfl)) (by decide) (fun K hK => ?_)
                        refine goes_ Try.func18 (by kernel_rfl) rfl #[.pointer (some ⟨w9.heap.size, 0, none⟩), .int .i64 1] (by rfl) rfl rfl (by first | rfl | (simp only [List.map_toArray, List.map_cons, List.map_nil]; rfl)) ?_
                        refine (HT1.out _ _ HFa.out).mono ?_
                        rintro e wb ⟨rfl, ho, hr⟩
                        refine ⟨_, rfl, ?_⟩
                        have HBb := Aside0.mk (ho.below HBa.out HG2.out HBa.out.size)
                        clear ho hr
                        refine hK.out _ _ trivial (fun _ => ?_)
                        clear hK K
                        try simp only [Act.put, List.setIfInBounds_toArray, List.set_cons_zero, List.set_cons_succ]
                        refine pure_ (i := 18) (N := (some 129)) (v := ?_) (a' := ?_) #[true, true, true, true, true, true, true, true, true, true, true, true, true, true, true, true, true, true, true, false, false] rfl rfl (any_of HT_.out (by kernel_rfl)) (fun _ _ _ h => h) (Or.inl ⟨by rfl, ?_⟩) ?_ ?_
                        rotate_left
                        · intro w'
                          go_simp
                          with_reducible rfl
                        rotate_left
                        · simp only [Act.put, List.setIfInBounds_toArray, List.set_cons_zero, List.set_cons_succ, i64_w, i32_w]
                          rfl
                        refine pure_ (i := 19) (N := (some 130)) (v := ?_) (a' := ?_) #[true, true, true, true, true, true, true, true, true, true, true, true, true, true, true, true, true, true, true, true, false] rfl rfl (any_of HT_.out (by kernel_rfl)) (fun _ _ _ h => h) (Or.inl ⟨by rfl, ?_⟩) ?_ ?_
                        rotate_left
                        · intro w'
                          go_simp
                          with_reducible rfl
                        rotate_left
                        · simp only [Act.put, List.setIfInBounds_toArray, List.set_cons_zero, List.set_cons_succ, i64_w, i32_w]
                          rfl
                        refine pure_ (i := 20) (N := (some 6)) (v := ?_) (a' := ?_) #[true, true, true, true, true, true, true, true, true, true, true, true, true, true, true, true, true, true, true, true, true] rfl rfl (any_of HT_.out (by kernel_rfl)) (fun _ _ _ h => h) (Or.inl ⟨by rfl, ?_⟩) ?_ ?_
                        rotate_left
                        · intro w'
                          go_simp
                          with_reducible rfl
                        rotate_left
                        · simp only [Act.put, List.setIfInBounds_toArray, List.set_cons_zero, List.set_cons_succ, i64_w, i32_w]
                          rfl
                        refine done_ (done_of HT_.out (by kernel_rfl)) ?_
                        go_wp2
                        go_ret
                        exact ⟨rfl, HBb.out⟩
                      · refine goes_ Try.func15 (by kernel_rfl) rfl #[.string s] (by rfl) rfl rfl (by first | rfl | (simp only [List.map_toArray, List.map_cons, List.map_nil]; rfl)) ?_
                        refine (HT.out _).mono ?_
                        rintro e wt ⟨rfl, hb⟩
                        refine ⟨_, rfl, ?_⟩
                        have HD9 := Aside0.mk (HD8.out.below hb)
                        have HF9 := Aside0.mk (HF8.out.below hb)
                        have HB9 := Aside0.mk (below_step HB8.out hb)
                        have HZ9 := Aside0.mk (conv_z (c := cz) (Kd.C_below HZD.out hb) HX.out)
                        clear hb
                        refine hK.out _ _ trivial (fun _ => ?_)
                        clear hK K
                        try simp only [Act.put, List.setIfInBounds_toArray, List.set_cons_zero, List.set_cons_succ]
                        refine two_ (i := 6) (j := 10) (Ni := (some 117)) (Nj := (some 121)) #[true, true, true, true, true, true, true, true, true, true, false, false, false, false, false, false, false, false, false, false, false] #[true, true, true, true, true, true, false, true, true, true, true, false, false, false, false, false, false, false, false, false, false] rfl rfl rfl rfl (two_of HT_.out (by kernel_rfl)) (by decide) (by decide) (fun K hK => ?_) (fun K hK => ?_)
                        · refine value_ (w1 := _) (v := .string (b ++ strOfNums (textE s))) (by rfl) rfl (run_conv_op 23 9 (.tmp 116) rfl _ rfl (HZ9.out)) ?_
                          refine hK.out _ _ trivial (fun _ => ?_)
                          clear hK K
                          try simp only [Act.put, List.setIfInBounds_toArray, List.set_cons_zero, List.set_cons_succ]
                          refine one_ (i := 10) (N := (some 121)) #[true, true, true, true, true, true, true, true, true, true, true, false, false, false, false, false, false, false, false, false, false] rfl rfl (one_of HT_.out (by kernel_rfl)) (by decide) (fun K hK => ?_)
                          refine value_ (w1 := wt) (v := .string (b ++ strOfNums (textE s))) (by rfl) rfl ?_ ?_
                          · go_simp
                            first | done | (rw [if_neg (by omega)]; done) | (rw [if_neg (by omega)]; rfl) | rfl
                          refine hK.out _ _ trivial (fun _ => ?_)
                          clear hK K
                          try simp only [Act.put, List.setIfInBounds_toArray, List.set_cons_zero, List.set_cons_succ]
                          refine pure_ (i := 11) (N := (some 122)) (v := ?_) (a' := ?_) #[true, true, true, true, true, true, true, true, true, true, true, true, false, false, false, false, false, false, false, false, false] rfl rfl (any_of HT_.out (by kernel_rfl)) (fun _ _ _ h => h) (Or.inl ⟨by rfl, ?_⟩) ?_ ?_
                          rotate_left
                          · intro w'
                            go_simp
                            with_reducible rfl
                          rotate_left
                          · simp only [Act.put, List.setIfInBounds_toArray, List.set_cons_zero, List.set_cons_succ, i64_w, i32_w]
                            rfl
                          refine pure_ (i := 12) (N := (some 123)) (v := ?_) (a' := ?_) #[true, true, true, true, true, true, true, true, true, true, true, true, true, false, false, false, false, false, false, false, false] rfl rfl (any_of HT_.out (by kernel_rfl)) (fun _ _ _ h => h) (Or.inl ⟨by rfl, ?_⟩) ?_ ?_
                          rotate_left
                          · intro w'
                            go_simp
                            with_reducible rfl
                          rotate_left
                          · simp only [Act.put, List.setIfInBounds_toArray, List.set_cons_zero, List.set_cons_succ, i64_w, i32_w]
                            rfl
                          refine pure_ (i := 13) (N := (some 124)) (v := ?_) (a' := ?_) #[true, true, true, true, true, true, true, true, true, true, true, true, true, true, false, false, false, false, false, false, false] rfl rfl (any_of HT_.out (by kernel_rfl)) (fun _ _ _ h => h) (Or.inl ⟨by rfl, ?_⟩) ?_ ?_
                          rotate_left
                          · intro w'
                            go_simp
                            with_reducible rfl
                          rotate_left
                          · simp only [Act.put, List.setIfInBounds_toArray, List.set_cons_zero, List.set_cons_succ, i64_w, i32_w]
                            rfl
                          refine pure_ (i := 14) (N := (some 125)) (v := ?_) (a' := ?_) #[true, true, true, true, true, true, true, true, true, true, true, true, true, true, true, false, false, false, false, false, false] rfl rfl (any_of HT_.out (by kernel_rfl)) (fun _ _ _ h => h) (Or.inl ⟨by rfl, ?_⟩) ?_ ?_
                          rotate_left
                          · intro w'
                            go_simp
                            with_reducible rfl
                          rotate_left
                          · simp only [Act.put, List.setIfInBounds_toArray, List.set_cons_zero, List.set_cons_succ, i64_w, i32_w]
                            rfl
                          refine pure_ (i := 16) (N := (some 127)) (v := ?_) (a' := ?_) #[true, true, true, true, true, true, true, true, true, true, true, true, true, true, true, false, true, false, false, false, false] rfl rfl (any_of HT_.out (by kernel_rfl)) (fun _ _ _ h => h) (Or.inl ⟨by rfl, ?_⟩) ?_ ?_
                          rotate_left
                          · intro w'
                            go_simp
                            with_reducible rfl
                          rotate_left
                          · simp only [Act.put, List.setIfInBounds_toArray, List.set_cons_zero, List.set_cons_succ, i64_w, i32_w]
                            rfl
                          refine one_ (i := 15) (N := (some 126)) #[true, true, true, true, true, true, true, true, true, true, true, true, true, true, true, true, true, false, false, false, false] rfl rfl (one_of HT_.out (by kernel_rfl)) (by decide) (fun K hK => ?_)
                          refine goes_ Try.func17 (by kernel_rfl) rfl #[.pointer (some ⟨gr, 0, none⟩)] (by rfl) rfl rfl (by first | rfl | (simp only [List.map_toArray, List.map_cons, List.map_nil]; rfl)) ?_
                          refine (HT8.out _ _ _ HD9.out).mono ?_
                          rintro e wa ⟨rfl, ho, hr⟩
                          refine ⟨_, rfl, ?_⟩
                          have HFa := Aside0.mk (HF9.out.other ho HGR.out)
                          have HBa := Aside0.mk (ho.below HB9.out HG1.out HB9.out.size)
                          clear ho hr
                          refine hK.out _ _ trivial (fun _ => ?_)
                          clear hK K
                          try simp only [Act.put, List.setIfInBounds_toArray, List.set_cons_zero, List.set_cons_succ]
                          refine one_ (i := 17) (N := (some 128)) #[true, true, true, true, true, true, true, true, true, true, true, true, true, true, true, true, true, true, false, false, false] rfl rfl (one_of HT_.out (by kernel_rfl)) (by decide) (fun K hK => ?_)
                          refine goes_ Try.func18 (by kernel_rfl) rfl #[.pointer (some ⟨w9.heap.size, 0, none⟩), .int .i64 1] (by rfl) rfl rfl (by first | rfl | (simp only [List.map_toArray, List.map_cons, List.map_nil]; rfl)) ?_
                          refine (HT1.out _ _ HFa.out).mono ?_
                          rintro e wb ⟨rfl, ho, hr⟩
                          refine ⟨_, rfl, ?_⟩
                          have HBb := Aside0.mk (ho.below HBa.out HG2.out HBa.out.size)
                          clear ho hr
                          refine hK.out _ _ trivial (fun _ => ?_)
                          clear hK K
                          try simp only [Act.put, List.setIfInBounds_toArray, List.set_cons_zero, List.set_cons_succ]
                          refine pure_ (i := 18) (N := (some 129)) (v := ?_) (a' := ?_) #[true, true, true, true, true, true, true, true, true, true, true, true, true, true, true, true, true, true, true, false, false] rfl rfl (any_of HT_.out (by kernel_rfl)) (fun _ _ _ h => h) (Or.inl ⟨by rfl, ?_⟩) ?_ ?_
                          rotate_left
                          · intro w'
                            go_simp
                            with_reducible rfl
                          rotate_left
                          · simp only [Act.put, List.setIfInBounds_toArray, List.set_cons_zero, List.set_cons_succ, i64_w, i32_w]
                            rfl
                          refine pure_ (i := 19) (N := (some 130)) (v := ?_) (a' := ?_) #[true, true, true, true, true, true, true, true, true, true, true, true, true, true, true, true, true, true, true, true, false] rfl rfl (any_of HT_.out (by kernel_rfl)) (fun _ _ _ h => h) (Or.inl ⟨by rfl, ?_⟩) ?_ ?_
                          rotate_left
                          · intro w'
                            go_simp
                            with_reducible rfl
                          rotate_left
                          · simp only [Act.put, List.setIfInBounds_toArray, List.set_cons_zero, List.set_cons_succ, i64_w, i32_w]
                            rfl
                          refine pure_ (i := 20) (N := (some 6)) (v := ?_) (a' := ?_) #[true, true, true, true, true, true, true, true, true, true, true, true, true, true, true, true, true, true, true, true, true] rfl rfl (any_of HT_.out (by kernel_rfl)) (fun _ _ _ h => h) (Or.inl ⟨by rfl, ?_⟩) ?_ ?_
                          rotate_left
                          · intro w'
                            go_simp
                            with_reducible rfl
                          rotate_left
                          · simp only [Act.put, List.setIfInBounds_toArray, List.set_cons_zero, List.set_cons_succ, i64_w, i32_w]
                            rfl
                          refine done_ (done_of HT_.out (by kernel_rfl)) ?_
                          go_wp2
                          go_ret
                          exact ⟨rfl, HBb.out⟩
                        · refine value_ (w1 := wt) (v := .string (b ++ strOfNums (textE s))) (by rfl) rfl ?_ ?_
                          · go_simp
                            first | done | (rw [if_neg (by omega)]; done) | (rw [if_neg (by omega)]; rfl) | rfl
                          refine hK.out _ _ trivial (fun _ => ?_)
                          clear hK K
                          try simp only [Act.put, List.setIfInBounds_toArray, List.set_cons_zero, List.set_cons_succ]
                          refine one_ (i := 6) (N := (some 117)) #[true, true, true, true, true, true, true, true, true, true, true, false, false, false, false, false, false, false, false, false, false] rfl rfl (one_of HT_.out (by kernel_rfl)) (by decide) (fun K hK => ?_)
                          refine value_ (w1 := _) (v := .string (b ++ strOfNums (textE s))) (by rfl) rfl (run_conv_op 23 9 (.tmp 116) rfl _ rfl (HZ9.out)) ?_
                          refine hK.out _ _ trivial (fun _ => ?_)
                          clear hK K
                          try simp only [Act.put, List.setIfInBounds_toArray, List.set_cons_zero, List.set_cons_succ]
                          refine pure_ (i := 11) (N := (some 122)) (v := ?_) (a' := ?_) #[true, true, true, true, true, true, true, true, true, true, true, true, false, false, false, false, false, false, false, false, false] rfl rfl (any_of HT_.out (by kernel_rfl)) (fun _ _ _ h => h) (Or.inl ⟨by rfl, ?_⟩) ?_ ?_
                          rotate_left
                          · intro w'
                            go_simp
                            with_reducible rfl
                          rotate_left
                          · simp only [Act.put, List.setIfInBounds_toArray, List.set_cons_zero, List.set_cons_succ, i64_w, i32_w]
                            rfl
                          refine pure_ (i := 12) (N := (some 123)) (v := ?_) (a' := ?_) #[true, true, true, true, true, true, true, true, true, true, true, true, true, false, false, false, false, false, false, false, false] rfl rfl (any_of HT_.out (by kernel_rfl)) (fun _ _ _ h => h) (Or.inl ⟨by rfl, ?_⟩) ?_ ?_
                          rotate_left
                          · intro w'
                            go_simp
                            with_reducible rfl
                          rotate_left
                          · simp only [Act.put, List.setIfInBounds_toArray, List.set_cons_zero, List.set_cons_succ, i64_w, i32_w]
                            rfl
                          refine pure_ (i := 13) (N := (some 124)) (v := ?_) (a' := ?_) #[true, true, true, true, true, true, true, true, true, true, true, true, true, true, false, false, false, false, false, false, false] rfl rfl (any_of HT_.out (by kernel_rfl)) (fun _ _ _ h => h) (Or.inl ⟨by rfl, ?_⟩) ?_ ?_
                          rotate_left
                          · intro w'
                            go_simp
                            with_reducible rfl
                          rotate_left
                          · simp only [Act.put, List.setIfInBounds_toArray, List.set_cons_zero, List.set_cons_succ, i64_w, i32_w]
                            rfl
                          refine pure_ (i := 14) (N := (some 125)) (v := ?_) (a' := ?_) #[true, true, true, true, true, true, true, true, true, true, true, true, true, true, true, false, false, false, false, false, false] rfl rfl (any_of HT_.out (by kernel_rfl)) (fun _ _ _ h => h) (Or.inl ⟨by rfl, ?_⟩) ?_ ?_
                          rotate_left
                          · intro w'
                            go_simp
                            with_reducible rfl
                          rotate_left
                          · simp only [Act.put, List.setIfInBounds_toArray, List.set_cons_zero, List.set_cons_succ, i64_w, i32_w]
                            rfl
                          refine pure_ (i := 16) (N := (some 127)) (v := ?_) (a' := ?_) #[true, true, true, true, true, true, true, true, true, true, true, true, true, true, true, false, true, false, false, false, false] rfl rfl (any_of HT_.out (by kernel_rfl)) (fun _ _ _ h => h) (Or.inl ⟨by rfl, ?_⟩) ?_ ?_
                          rotate_left
                          · intro w'
                            go_simp
                            with_reducible rfl
                          rotate_left
                          · simp only [Act.put, List.setIfInBounds_toArray, List.set_cons_zero, List.set_cons_succ, i64_w, i32_w]
                            rfl
                          refine one_ (i := 15) (N := (some 126)) #[true, true, true, true, true, true, true, true, true, true, true, true, true, true, true, true, true, false, false, false, false] rfl rfl (one_of HT_.out (by kernel_rfl)) (by decide) (fun K hK => ?_)
                          refine goes_ Try.func17 (by kernel_rfl) rfl #[.pointer (some ⟨gr, 0, none⟩)] (by rfl) rfl rfl (by first | rfl | (simp only [List.map_toArray, List.map_cons, List.map_nil]; rfl)) ?_
                          refine (HT8.out _ _ _ HD9.out).mono ?_
                          rintro e wa ⟨rfl, ho, hr⟩
                          refine ⟨_, rfl, ?_⟩
                          have HFa := Aside0.mk (HF9.out.other ho HGR.out)
                          have HBa := Aside0.mk (ho.below HB9.out HG1.out HB9.out.size)
                          clear ho hr
                          refine hK.out _ _ trivial (fun _ => ?_)
                          clear hK K
                          try simp only [Act.put, List.setIfInBounds_toArray, List.set_cons_zero, List.set_cons_succ]
                          refine one_ (i := 17) (N := (some 128)) #[true, true, true, true, true, true, true, true, true, true, true, true, true, true, true, true, true, true, false, false, false] rfl rfl (one_of HT_.out (by kernel_rfl)) (by decide) (fun K hK => ?_)
                          refine goes_ Try.func18 (by kernel_rfl) rfl #[.pointer (some ⟨w9.heap.size, 0, none⟩), .int .i64 1] (by rfl) rfl rfl (by first | rfl | (simp only [List.map_toArray, List.map_cons, List.map_nil]; rfl)) ?_
                          refine (HT1.out _ _ HFa.out).mono ?_
                          rintro e wb ⟨rfl, ho, hr⟩
                          refine ⟨_, rfl, ?_⟩
                          have HBb := Aside0.mk (ho.below HBa.out HG2.out HBa.out.size)
                          clear ho hr
                          refine hK.out _ _ trivial (fun _ => ?_)
                          clear hK K
                          try simp only [Act.put, List.setIfInBounds_toArray, List.set_cons_zero, List.set_cons_succ]
                          refine pure_ (i := 18) (N := (some 129)) (v := ?_) (a' := ?_) #[true, true, true, true, true, true, true, true, true, true, true, true, true, true, true, true, true, true, true, false, false] rfl rfl (any_of HT_.out (by kernel_rfl)) (fun _ _ _ h => h) (Or.inl ⟨by rfl, ?_⟩) ?_ ?_
                          rotate_left
                          · intro w'
                            go_simp
                            with_reducible rfl
                          rotate_left
                          · simp only [Act.put, List.setIfInBounds_toArray, List.set_cons_zero, List.set_cons_succ, i64_w, i32_w]
                            rfl
                          refine pure_ (i := 19) (N := (some 130)) (v := ?_) (a' := ?_) #[true, true, true, true, true, true, true, true, true, true, true, true, true, true, true, true, true, true, true, true, false] rfl rfl (any_of HT_.out (by kernel_rfl)) (fun _ _ _ h => h) (Or.inl ⟨by rfl, ?_⟩) ?_ ?_
                          rotate_left
                          · intro w'
                            go_simp
                            with_reducible rfl
                          rotate_left
                          · simp only [Act.put, List.setIfInBounds_toArray, List.set_cons_zero, List.set_cons_succ, i64_w, i32_w]
                            rfl
                          refine pure_ (i := 20) (N := (some 6)) (v := ?_) (a' := ?_) #[true, true, true, true, true, true, true, true, true, true, true, true, true, true, true, true, true, true, true, true, true] rfl rfl (any_of HT_.out (by kernel_rfl)) (fun _ _ _ h => h) (Or.inl ⟨by rfl, ?_⟩) ?_ ?_
                          rotate_left
                          · intro w'
                            go_simp
                            with_reducible rfl
                          rotate_left
                          · simp only [Act.put, List.setIfInBounds_toArray, List.set_cons_zero, List.set_cons_succ, i64_w, i32_w]
                            rfl
                          refine done_ (done_of HT_.out (by kernel_rfl)) ?_
                          go_wp2
                          go_ret
                          exact ⟨rfl, HBb.out⟩
    · have t2 : decide (1000 < (s.size : Int)) = true := decide_eq_true (by omega)
      go_enter Try.func5, Try.ntmps5
      go_wp2_with (first | (go_at_call 10; refine (awake_true _).mono ?_; rintro e w1 ⟨rfl, hb⟩; (first | (have n_ := Aside0.mk (below_step HB.out hb); clear HB; have HB := n_; clear n_) | have HB := Aside0.mk hb); clear hb))
      go_ret
      exact ⟨rfl, HB.out⟩
  · have t1 : decide (1000 < (b.size : Int)) = true := decide_eq_true (by omega)
    go_enter Try.func5, Try.ntmps5
    go_wp2_with (first | (go_at_call 10; refine (awake_true _).mono ?_; rintro e w1 ⟨rfl, hb⟩; (first | (have n_ := Aside0.mk (below_step HB.out hb); clear HB; have HB := n_; clear n_) | have HB := Aside0.mk hb); clear hb))
    go_ret
    exact ⟨rfl, HB.out⟩
end Go.Proofs.Ytnidooobefoahaa.Hand
