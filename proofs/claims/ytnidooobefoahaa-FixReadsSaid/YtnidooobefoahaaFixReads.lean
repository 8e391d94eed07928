/- The walk of FixReads. -/
import Derived.Test.YtnidooobefoahaaOps
import Derived.Test.YtnidooobefoahaaRefReader
import Derived.Deep.RegionHeld3
namespace Go.Proofs.Ytnidooobefoahaa.Hand
open Go.RowKit Go.Proofs.Ytnidooobefoahaa.Sp Go.Proofs.Ytnidooobefoahaa.Pure Go.Proofs.Ytnidooobefoahaa.OpenOp Go.Proofs.YtnidooobefoahaaW.PrintWords Go.Proofs.YtnidooobefoahaaW.PrintLast Go.Proofs.YtnidooobefoahaaW.PrintMore
set_option linter.unusedVariables false
set_option linter.unusedSimpArgs false

/-- Both readers, over the same bytes, in the same state. -/
structure Both (w0 w : World) (bs g g2 : Nat) (B : ByteArray) (s : RS) : Prop where
  rd : Rd w bs g (bytesOf B) s
  rf : Rf w g2 B s
  lt : g < g2
  base : w0.heap.size ≤ bs
  bel : Below w0.heap.size w0 w
theorem Only.cell {w w' : World} {g b o : Nat} {v : Value} (h : Only w w' g) (hc : w.cell? ⟨b, o, none⟩ = some v) (hne : b ≠ g) : w'.cell? ⟨b, o, none⟩ = some v := (World.cell?_of_block (h.block b (World.block_lt_of_cell? w _ hc) hne)).trans hc
theorem Both.below {w0 w w' : World} {bs g g2 : Nat} {B : ByteArray} {s : RS} (h : Both w0 w bs g g2 B s) (hb : Below w.heap.size w w') : Both w0 w' bs g g2 B s :=
  ⟨h.rd.below hb, h.rf.below hb, h.lt, h.base, below_step h.bel hb⟩
theorem Both.one {w0 w w1 : World} {bs g g2 : Nat} {B : ByteArray} {s : RS} (h : Both w0 w bs g g2 B s) (ho : Only w w1 g) : Rf w1 g2 B s := h.rf.other ho (by have := h.lt; omega)
theorem Both.oneF {w0 w w1 : World} {bs g g2 : Nat} {B : ByteArray} {s : RS} (h : Both w0 w bs g g2 B s) (ho : Only w w1 g2) : Rd w1 bs g (bytesOf B) s := h.rd.other ho (by have := h.lt; omega)
theorem Both.two {w0 w w1 w2 : World} {bs g g2 : Nat} {B : ByteArray} {s s' : RS} (h : Both w0 w bs g g2 B s) (ho : Only w w1 g) (hr : Rd w1 bs g (bytesOf B) s') (ho2 : Only w1 w2 g2) (hf : Rf w2 g2 B s') : Both w0 w2 bs g g2 B s' :=
  ⟨hr.other ho2 (by have := h.lt; omega), hf, h.lt, h.base, ho2.below (ho.below h.bel (by have := h.base; have := h.rd.base; omega) h.bel.size) (by have := h.base; have := h.rd.base; have := h.lt; omega) (Nat.le_trans h.bel.size ho.size)⟩
theorem Both.twoF {w0 w w1 w2 : World} {bs g g2 : Nat} {B : ByteArray} {s s' : RS} (h : Both w0 w bs g g2 B s) (ho : Only w w1 g2) (hf : Rf w1 g2 B s') (ho2 : Only w1 w2 g) (hr : Rd w2 bs g (bytesOf B) s') : Both w0 w2 bs g g2 B s' :=
  ⟨hr, hf.other ho2 (by have := h.lt; omega), h.lt, h.base, ho2.below (ho.below h.bel (by have := h.base; have := h.rd.base; have := h.lt; omega) h.bel.size) (by have := h.base; have := h.rd.base; omega) (Nat.le_trans h.bel.size ho.size)⟩
def ReadsRel (w : World) (bs g g2 : Nat) (B : ByteArray) (n : Nat) (i : Value) (wr : World) : Prop := ∃ (k : Nat) (s : RS), k ≤ n ∧ i = .int .i64 (k : Int) ∧ Both w wr bs g g2 B s
set_option maxHeartbeats 4000000 in
set_option maxRecDepth 100000 in
theorem fixReads_walk (s : ByteArray) (A1 : Option Addr) (c1 : Nat) (l1 : List (Int × Int)) (w : World) (hs : s.size ≤ 140737488351232)
    (hC1 : Kd.C kOp w A1 l1.length l1) : Calls Try.prog 7 #[.string s, .slice A1 l1.length c1] w fun e w' => e = .returned (.bool true) ∧ Below w.heap.size w w' := by
  have HC1 := Aside0.mk hC1
  clear hC1
  have hcv := cvb_run s
  by_cases h1 : l1.length ≤ 300
  · have t1 : decide (300 < (l1.length : Int)) = false := decide_eq_false (by omega)
    go_enter Try.func7, Try.ntmps7
    go_wp2_with (first | (go_at_call 10; refine (awake_true _).mono ?_; rintro e w1 ⟨rfl, hb⟩; have HB := Aside0.mk hb; clear hb) | (go_at_call 16; refine (Read_any (cvb_reads s (by omega) _) (cvb_cap s _) (by rw [bytesOf_length]; omega) (bytesOf_by s)).mono ?_; rintro e w2 ⟨g, rfl, hb, hr⟩; have HB2 := Aside0.mk (below_step (cvb_below s HB.out HB.out.size) hb); obtain ⟨bs, hbs, hr'⟩ : ∃ bs, w.heap.size ≤ bs ∧ Rd w2 bs g (bytesOf s) ⟨0, 0⟩ := ⟨_, (cvb_below s HB.out HB.out.size).size, hr⟩; have HR := Aside0.mk hr'; have HS := Aside0.mk hbs; clear hb hr hr' hbs))
    have HBo : Aside0 (Both w (w2.alloc (.cells #[.string s, .int .i64 0, .int .i64 0] 34)) bs g w2.heap.size s ⟨0, 0⟩) :=
      ⟨⟨HR.out.below (below_alloc (Below.refl _ _) _), ⟨blk_new _ _, Nat.zero_le _, by omega⟩, HR.out.lt, HS.out, below_alloc HB2.out _⟩⟩
    go_loopw [26] (fun i wr => ReadsRel w bs g w2.heap.size s l1.length i wr) (fun i _ => l1.length - (intOf i).toNat)
    case atStart => exact ⟨0, _, Nat.zero_le _, rfl, HBo.out⟩
    case round =>
      obtain ⟨k, s', hk, rfl, hbo⟩ := hrel
      by_cases hlt : k < l1.length
      · obtain ⟨ad, rfl, hc0, hc1⟩ := op_cells (Kd.C_below HC1.out hbo.bel) hlt
        have HB3 := Aside0.mk hbo
        clear hbo
        generalize l1.getD k (0, 0) = op at hc0 hc1
        obtain ⟨a, n⟩ := op
        simp only at hc0 hc1
        have HB4 : Aside0 (Both w (wr.alloc (.cells #[.int .i64 a, .int .i64 n] 46)) bs g w2.heap.size s s') := ⟨HB3.out.below (below_alloc (Below.refl _ _) _)⟩
        by_cases k1 : a = 1
        · have z1 : (a == 1) = true := beq_iff_eq.2 k1
          clear k1
          have HT := Aside0.mk (Take8_any HB4.out.rd)
          have HF := Aside0.mk (fun (W : World) (h : Rf W w2.heap.size s s') => RTake_any h 1 (by omega))
          generalize rNum (bytesOf s) s' 1 = r at HT HF
          obtain ⟨N, p, e⟩ := r
          have hne1 : (e != e) = false := by simp
          have hne2 : ((p : Int) != (p : Int)) = false := by simp
          have heq : (N == N) = true := by simp
          go_wp2_with (first | (go_at_call 17; refine HT.out.mono ?_; rintro e w3 ⟨rfl, ho, hr⟩; have HO := Aside0.mk ho; have HR3 := Aside0.mk hr; clear ho hr) | (go_at_call 18; refine (HF.out _ (HB4.out.one HO.out)).mono ?_; rintro e w4 ⟨rfl, ho, hf⟩; have HB5 := Aside0.mk (HB4.out.two HO.out HR3.out ho hf); have d1 := hf.blk.c1; have d2 := hf.blk.c2; simp only at d1 d2; clear ho hf))
          go_quiet ((first | (go_at_call 22; exact Calls.quiet_of_same (Err_rd (HB5.out.rd.below (pw_below_drewN (Below.refl _ _) _)))) | (go_at_call 23; exact Calls.quiet_of_same (At_rd (HB5.out.rd.below (pw_below_drewN (Below.refl _ _) _))))))
          go_wp2
          go_roundw
          case rel => exact ⟨k + 1, _, by omega, by go_num, HB5.out.below (pw_below_drewN (Below.refl _ _) _)⟩
          case measure => simp [intOf]; omega
        have z1 : (a == 1) = false := beq_eq_false_iff_ne.2 k1
        clear k1
        by_cases k2 : a = 2
        · have z2 : (a == 2) = true := beq_iff_eq.2 k2
          clear k2
          have HT := Aside0.mk (Take16_any HB4.out.rd)
          have HF := Aside0.mk (fun (W : World) (h : Rf W w2.heap.size s s') => RTake_any h 2 (by omega))
          generalize rNum (bytesOf s) s' 2 = r at HT HF
          obtain ⟨N, p, e⟩ := r
          have hne1 : (e != e) = false := by simp
          have hne2 : ((p : Int) != (p : Int)) = false := by simp
          have heq : (N == N) = true := by simp
          go_wp2_with (first | (go_at_call 19; refine HT.out.mono ?_; rintro e w3 ⟨rfl, ho, hr⟩; have HO := Aside0.mk ho; have HR3 := Aside0.mk hr; clear ho hr) | (go_at_call 18; refine (HF.out _ (HB4.out.one HO.out)).mono ?_; rintro e w4 ⟨rfl, ho, hf⟩; have HB5 := Aside0.mk (HB4.out.two HO.out HR3.out ho hf); have d1 := hf.blk.c1; have d2 := hf.blk.c2; simp only at d1 d2; clear ho hf))
          go_quiet ((first | (go_at_call 22; exact Calls.quiet_of_same (Err_rd (HB5.out.rd.below (pw_below_drewN (Below.refl _ _) _)))) | (go_at_call 23; exact Calls.quiet_of_same (At_rd (HB5.out.rd.below (pw_below_drewN (Below.refl _ _) _))))))
          go_wp2
          go_roundw
          case rel => exact ⟨k + 1, _, by omega, by go_num, HB5.out.below (pw_below_drewN (Below.refl _ _) _)⟩
          case measure => simp [intOf]; omega
        have z2 : (a == 2) = false := beq_eq_false_iff_ne.2 k2
        clear k2
        by_cases k3 : a = 3
        · have z3 : (a == 3) = true := beq_iff_eq.2 k3
          clear k3
          have HT := Aside0.mk (Take32_any HB4.out.rd)
          have HF := Aside0.mk (fun (W : World) (h : Rf W w2.heap.size s s') => RTake_any h 4 (by omega))
          generalize rNum (bytesOf s) s' 4 = r at HT HF
          obtain ⟨N, p, e⟩ := r
          have hne1 : (e != e) = false := by simp
          have hne2 : ((p : Int) != (p : Int)) = false := by simp
          have heq : (N == N) = true := by simp
          go_wp2_with (first | (go_at_call 20; refine HT.out.mono ?_; rintro e w3 ⟨rfl, ho, hr⟩; have HO := Aside0.mk ho; have HR3 := Aside0.mk hr; clear ho hr) | (go_at_call 18; refine (HF.out _ (HB4.out.one HO.out)).mono ?_; rintro e w4 ⟨rfl, ho, hf⟩; have HB5 := Aside0.mk (HB4.out.two HO.out HR3.out ho hf); have d1 := hf.blk.c1; have d2 := hf.blk.c2; simp only at d1 d2; clear ho hf))
          go_quiet ((first | (go_at_call 22; exact Calls.quiet_of_same (Err_rd (HB5.out.rd.below (pw_below_drewN (Below.refl _ _) _)))) | (go_at_call 23; exact Calls.quiet_of_same (At_rd (HB5.out.rd.below (pw_below_drewN (Below.refl _ _) _))))))
          go_wp2
          go_roundw
          case rel => exact ⟨k + 1, _, by omega, by go_num, HB5.out.below (pw_below_drewN (Below.refl _ _) _)⟩
          case measure => simp [intOf]; omega
        have z3 : (a == 3) = false := beq_eq_false_iff_ne.2 k3
        clear k3
        by_cases k4 : a = 4
        · have z4 : (a == 4) = true := beq_iff_eq.2 k4
          clear k4
          have HT := Aside0.mk (fun (W : World) (h : Rd W bs g (bytesOf s) s') => Text_any h n)
          have HF := Aside0.mk (fun (W : World) (h : Rf W w2.heap.size s s') => RText_any h n)
          generalize rText (bytesOf s) s' n = r at HT HF
          obtain ⟨x, p, e⟩ := r
          have hne1 : (e != e) = false := by simp
          have hne2 : ((p : Int) != (p : Int)) = false := by simp
          have heq : (strOfNums x == strOfNums x) = true := (MapKept.bytes_beq _ _).mpr rfl
          have hg1 : wr.heap.size ≠ g := by have := HB3.out.rd.lt; omega
          have hg2 : wr.heap.size ≠ w2.heap.size := by have := blk_lt HB3.out.rf.blk; omega
          have hx0 : (wr.alloc (.cells #[.int .i64 a, .int .i64 n] 46)).cell? ⟨wr.heap.size, 1, none⟩ = some (.int .i64 n) := by rw [blk_cell (blk_new _ _) 1]; rfl
          have HG1 := Aside0.mk hg1
          have HG2 := Aside0.mk hg2
          clear hg1 hg2
          go_wp2
          go_region_held3 (fun w' => w'.cell? ⟨wr.heap.size, 1, none⟩ = some (.int .i64 n)) (go_keep) (first | (go_at_call 21; refine (HT.out _ ?hr).mono ?_; (case hr => exact (HB4.out.below (by repeat (first | exact Below.refl _ _ | apply pw_below_drewN | apply below_drew))).rd); rintro e w3 ⟨rfl, ho, hr⟩; have HA := Aside0.mk (Both.one (HB4.out.below (by repeat (first | exact Below.refl _ _ | apply pw_below_drewN | apply below_drew))) ho); have HW := Aside0.mk ho; have HR3 := Aside0.mk hr; have hx3 := ho.cell (show World.cell? _ ⟨wr.heap.size, 1, none⟩ = some (.int .i64 n) from hx0) HG1.out; clear ho hr) | (go_at_call 24; refine (HF.out _ ?hf).mono ?_; (case hf => exact HA.out.below (by repeat (first | exact Below.refl _ _ | apply pw_below_drewN | apply below_drew))); rintro e w4 ⟨rfl, ho, hf⟩; have HB5 := Aside0.mk (Both.two (HB4.out.below (by repeat (first | exact Below.refl _ _ | apply pw_below_drewN | apply below_drew))) HW.out HR3.out ((Only.of_below (by repeat (first | exact Below.refl _ _ | apply pw_below_drewN | apply below_drew))).trans ho) hf); have d1 := hf.blk.c1; have d2 := hf.blk.c2; simp only at d1 d2; have hx4 := ho.cell (show World.cell? _ ⟨wr.heap.size, 1, none⟩ = some (.int .i64 n) from hx3) HG2.out; clear ho hf) | (go_at_call 24; refine (HF.out _ ?hf).mono ?_; (case hf => exact (HB4.out.below (by repeat (first | exact Below.refl _ _ | apply pw_below_drewN | apply below_drew))).rf); rintro e w3 ⟨rfl, ho, hr⟩; have HA := Aside0.mk (Both.oneF (HB4.out.below (by repeat (first | exact Below.refl _ _ | apply pw_below_drewN | apply below_drew))) ho); have HW := Aside0.mk ho; have HR3 := Aside0.mk hr; have hx3 := ho.cell (show World.cell? _ ⟨wr.heap.size, 1, none⟩ = some (.int .i64 n) from hx0) HG2.out; clear ho hr) | (go_at_call 21; refine (HT.out _ ?hr).mono ?_; (case hr => exact HA.out.below (by repeat (first | exact Below.refl _ _ | apply pw_below_drewN | apply below_drew))); rintro e w4 ⟨rfl, ho, hf⟩; have HB5 := Aside0.mk (Both.twoF (HB4.out.below (by repeat (first | exact Below.refl _ _ | apply pw_below_drewN | apply below_drew))) HW.out HR3.out ((Only.of_below (by repeat (first | exact Below.refl _ _ | apply pw_below_drewN | apply below_drew))).trans ho) hf); have d1 := HB5.out.rf.blk.c1; have d2 := HB5.out.rf.blk.c2; have hx4 := ho.cell (show World.cell? _ ⟨wr.heap.size, 1, none⟩ = some (.int .i64 n) from hx3) HG1.out; clear ho hf))
          all_goals
            go_wp2
            go_quiet ((first | (go_at_call 22; exact Calls.quiet_of_same (Err_rd (HB5.out.rd.below (pw_below_drewN (Below.refl _ _) _)))) | (go_at_call 23; exact Calls.quiet_of_same (At_rd (HB5.out.rd.below (pw_below_drewN (Below.refl _ _) _))))))
            go_wp2
            go_roundw
            case rel => exact ⟨k + 1, _, by omega, by go_num, HB5.out.below (pw_below_drewN (Below.refl _ _) _)⟩
            case measure => simp [intOf]; omega
        have z4 : (a == 4) = false := beq_eq_false_iff_ne.2 k4
        clear k4
        by_cases k5 : a = 5
        · have z5 : (a == 5) = true := beq_iff_eq.2 k5
          clear k5
          have HT := Aside0.mk (Zero_any HB4.out.rd)
          have HF := Aside0.mk (fun (W : World) (h : Rf W w2.heap.size s s') => RZero_any h)
          generalize rZero (bytesOf s) s' = r at HT HF
          obtain ⟨p, e⟩ := r
          have hne1 : (e != e) = false := by simp
          have hne2 : ((p : Int) != (p : Int)) = false := by simp
          go_wp2_with (first | (go_at_call 25; refine HT.out.mono ?_; rintro e w3 ⟨rfl, ho, hr⟩; have HO := Aside0.mk ho; have HR3 := Aside0.mk hr; clear ho hr) | (go_at_call 26; refine (HF.out _ (HB4.out.one HO.out)).mono ?_; rintro e w4 ⟨rfl, ho, hf⟩; have HB5 := Aside0.mk (HB4.out.two HO.out HR3.out ho hf); have d1 := hf.blk.c1; have d2 := hf.blk.c2; simp only at d1 d2; clear ho hf))
          go_quiet ((first | (go_at_call 22; exact Calls.quiet_of_same (Err_rd (HB5.out.rd.below (pw_below_drewN (Below.refl _ _) _)))) | (go_at_call 23; exact Calls.quiet_of_same (At_rd (HB5.out.rd.below (pw_below_drewN (Below.refl _ _) _))))))
          go_wp2
          go_roundw
          case rel => exact ⟨k + 1, _, by omega, by go_num, HB5.out.below (pw_below_drewN (Below.refl _ _) _)⟩
          case measure => simp [intOf]; omega
        have z5 : (a == 5) = false := beq_eq_false_iff_ne.2 k5
        clear k5
        obtain ⟨p, e⟩ := s'
        have d1 := HB4.out.rf.blk.c1
        have d2 := HB4.out.rf.blk.c2
        simp only at d1 d2
        have hne1 : (e != e) = false := by simp
        have hne2 : ((p : Int) != (p : Int)) = false := by simp
        go_wp2
        go_quiet ((first | (go_at_call 22; exact Calls.quiet_of_same (Err_rd (HB4.out.rd.below (pw_below_drewN (Below.refl _ _) _)))) | (go_at_call 23; exact Calls.quiet_of_same (At_rd (HB4.out.rd.below (pw_below_drewN (Below.refl _ _) _))))))
        go_wp2
        go_roundw
        case rel => exact ⟨k + 1, _, by omega, by go_num, HB4.out.below (pw_below_drewN (Below.refl _ _) _)⟩
        case measure => simp [intOf]; omega
      · obtain ⟨p, e⟩ := s'
        have HB4 := Aside0.mk hbo
        clear hbo
        have d1 := HB4.out.rf.blk.c1
        have d2 := HB4.out.rf.blk.c2
        simp only at d1 d2
        have hne1 : (e == e) = true := by simp
        have hne2 : ((p : Int) == (p : Int)) = true := by simp
        go_wp2
        go_quiet ((first | (go_at_call 22; exact Calls.quiet_of_same (Err_rd (HB4.out.rd.below (pw_below_drewN (Below.refl _ _) _)))) | (go_at_call 23; exact Calls.quiet_of_same (At_rd (HB4.out.rd.below (pw_below_drewN (Below.refl _ _) _))))))
        go_wp2
        go_ret
        exact ⟨rfl, pw_below_drewN HB4.out.bel _⟩
  · have t1 : decide (300 < (l1.length : Int)) = true := decide_eq_true (by omega)
    go_enter Try.func7, Try.ntmps7
    go_wp2_with (first | (go_at_call 10; refine (awake_true _).mono ?_; rintro e w1 ⟨rfl, hb⟩; (first | (have n_ := Aside0.mk (below_step HB.out hb); clear HB; have HB := n_; clear n_) | have HB := Aside0.mk hb); clear hb))
    go_ret
    exact ⟨rfl, HB.out⟩
end Go.Proofs.Ytnidooobefoahaa.Hand
