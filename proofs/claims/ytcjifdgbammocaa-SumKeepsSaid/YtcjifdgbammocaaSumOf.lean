/- What sum.Of answers: the check of the bytes, if each is a byte; it makes memory of its own and changes none that was there. -/
import Derived.Test.YtcjifdgbammocaaProg
import Derived.Test.YtcjifdgbammocaaWMore
import Derived.Test.YtcjifdgbammocaaCrc
import Derived.WalkKit
namespace Go.Proofs.Ytcjifdgbammocaa.Hand
open Go.RowKit Go.Proofs.YtcjifdgbammocaaW.PrintWords
set_option linter.unusedVariables false

def tabV : Array Value := #[.int .u32 0x00000000, .int .u32 0x04c11db7, .int .u32 0x09823b6e, .int .u32 0x0d4326d9,
    .int .u32 0x130476dc, .int .u32 0x17c56b6b, .int .u32 0x1a864db2, .int .u32 0x1e475005,
    .int .u32 0x2608edb8, .int .u32 0x22c9f00f, .int .u32 0x2f8ad6d6, .int .u32 0x2b4bcb61,
    .int .u32 0x350c9b64, .int .u32 0x31cd86d3, .int .u32 0x3c8ea00a, .int .u32 0x384fbdbd]
set_option maxHeartbeats 400000 in
theorem halves_any (w : World) : Calls Try.prog 16 #[] w fun e w' => e = .returned (.agg tabV) ∧ Below w.heap.size w w' := by
  go_enter Try.func16, Try.ntmps16
  go_wp2
  refine bodyPost_ret (v := .agg tabV) ?_ rfl ⟨rfl, ?_⟩
  · simp [results, Try.results16, go_sem, tabV]
  · exact (Below.refl _ _).alloc (Nat.le_refl _) _

def isB (x : Int) : Bool := decide (0 ≤ x) && decide (x ≤ 255)
theorem isB_iff (x : Int) : isB x = true ↔ 0 ≤ x ∧ x ≤ 255 := by simp [isB]
theorem allB {l : List Int} (h : l.all isB = true) (k : Nat) (hk : k < l.length) : 0 ≤ rd l k ∧ rd l k ≤ 255 := by
  have := (List.all_eq_true.1 h) l[k] (List.getElem_mem hk)
  rw [isB_iff] at this
  unfold rd
  rw [Int.toNat_natCast, List.getD_eq_getElem?_getD, List.getElem?_eq_getElem hk]
  exact this
theorem tabV_at (j : Nat) (h : j < 16) : tabV[j]? = some (.int .u32 ((Crc.tab.getD j 0 : Nat) : Int)) := by
  match j, h with
  | 0, _ => rfl
  | 1, _ => rfl
  | 2, _ => rfl
  | 3, _ => rfl
  | 4, _ => rfl
  | 5, _ => rfl
  | 6, _ => rfl
  | 7, _ => rfl
  | 8, _ => rfl
  | 9, _ => rfl
  | 10, _ => rfl
  | 11, _ => rfl
  | 12, _ => rfl
  | 13, _ => rfl
  | 14, _ => rfl
  | 15, _ => rfl
  | n + 16, h => omega
/-- A world in which the table lies. -/
def Tabled (w : World) (g : Nat) : Prop := ∀ j, j < 16 → w.cell? ⟨g, j, none⟩ = some (.int .u32 ((Crc.tab.getD j 0 : Nat) : Int))
theorem tabled_new (w : World) (t : TypeId) : Tabled (w.alloc (.cells tabV t)) w.heap.size := fun j h => by
  rw [World.cell?_alloc_new]
  exact tabV_at j h
theorem tabled_at {w : World} {g : Nat} (h : Tabled w g) (i : Int) (h0 : 0 ≤ i) (h1 : i < 16) : w.cell? ⟨g, i.toNat, none⟩ = some (.int .u32 (Crc.tabI i)) := h i.toNat (by omega)
theorem reg_snoc (r : Crc.W) (l : List Int) (k : Nat) (h : k < l.length) : Crc.reg r (l.take (k + 1)) = Crc.bst (Crc.reg r (l.take k)) (rd l k) := by
  rw [List.take_succ_eq_append_getElem h, Crc.reg_append]
  unfold rd
  rw [Int.toNat_natCast, List.getD_eq_getElem?_getD, List.getElem?_eq_getElem h]
  rfl

def sum_Of.f (l0 : List Int) : Option Int := if l0.all isB = true then some (Crc.crc l0) else none
set_option maxHeartbeats 1000000 in
theorem Of_any (A0 : Option Addr) (c0 : Nat) (l0 : List Int) (w : World) (hr0 : Kd.C (Kd.int .u8) w A0 l0.length l0) (hc0 : l0.length ≤ c0) (hB : l0.all isB = true) :
    Calls Try.prog 10 #[.slice A0 l0.length c0] w fun e w' => e = .returned (.int .u32 (Crc.crc l0)) ∧ Below w.heap.size w w' := by
  have hl : l0.length ≤ 9223372036854775807 := hr0.2.1
  have HR0 := Aside0.mk hr0
  have HBY := Aside0.mk hB
  clear hr0 hB
  go_enter Try.func10, Try.ntmps10
  go_wp2_with (go_at_call 16; refine (halves_any _).mono ?_; rintro e w1 ⟨rfl, hb1⟩; unfold tabV)
  generalize hW : w1.alloc _ = W
  have HT : Aside0 (Tabled W w1.heap.size) := ⟨hW ▸ tabled_new w1 _⟩
  have HW : Aside0 (Below w.heap.size w W) := ⟨hW ▸ hb1.alloc hb1.size _⟩
  clear hW hb1
  go_loop [4, 10] (fun n i => ∃ k : Nat, k ≤ l0.length ∧ i = .int .i64 k ∧ n = .int .u32 ((Crc.reg Crc.ones (l0.take k)).toNat : Int)) (fun _ i => l0.length - (intOf i).toNat)
  case atStart => exact ⟨0, Nat.zero_le _, rfl, rfl⟩
  case round =>
    obtain ⟨k, hk, rfl, rfl⟩ := hrel
    generalize hst : Crc.reg Crc.ones (l0.take k) = N
    have Hst := Aside0.mk hst
    clear hst
    have hN := N.isLt
    by_cases hlt : k < l0.length
    · obtain ⟨ad, e0, hx⟩ := Kd.at_int HR0.out (k : Int) (by omega) (by omega)
      subst e0
      obtain ⟨hb0, hb1⟩ := allB HBY.out k hlt
      have hx2 : W.cell? (ad.add k) = some (.int .u8 (rd l0 k)) := pw_cell_below HW.out (by simpa using hx)
      generalize hc : rd l0 k = c at *
      have Hc := Aside0.mk hc
      clear hc hx
      have Hi := Aside0.mk (Crc.idx_range N (c / 16) (by omega) (by omega))
      have hj0 := Hi.out.2.1
      have hj1 := Hi.out.2.2
      have hcell := tabled_at HT.out _ hj0 hj1
      have Hn1 := Aside0.mk (Crc.walk_nib N (c / 16) (by omega) (by omega))
      have hi0 : 0 ≤ bits BinOp.xor IntKind.u32 ((N.toNat : Int) * 16 % 4294967296) (Crc.tabI (bits BinOp.xor IntKind.u32 ((N.toNat : Int) / 268435456) (c / 16))) := by rw [Hn1.out]; omega
      have hi1 : bits BinOp.xor IntKind.u32 ((N.toNat : Int) * 16 % 4294967296) (Crc.tabI (bits BinOp.xor IntKind.u32 ((N.toNat : Int) / 268435456) (c / 16))) ≤ 4294967295 := by
        rw [Hn1.out]
        have := (Crc.steps 4 (N ^^^ (BitVec.ofInt 32 (c / 16) <<< 28))).isLt
        omega
      have Hi2 : Aside0 (0 ≤ bits BinOp.xor IntKind.u32 (bits BinOp.xor IntKind.u32 ((N.toNat : Int) * 16 % 4294967296) (Crc.tabI (bits BinOp.xor IntKind.u32 ((N.toNat : Int) / 268435456) (c / 16))) / 268435456) (c % 16) ∧
          bits BinOp.xor IntKind.u32 (bits BinOp.xor IntKind.u32 ((N.toNat : Int) * 16 % 4294967296) (Crc.tabI (bits BinOp.xor IntKind.u32 ((N.toNat : Int) / 268435456) (c / 16))) / 268435456) (c % 16) < 16) :=
        ⟨by rw [Hn1.out]; exact (Crc.idx_range _ _ (by omega) (by omega)).2⟩
      have hp0 := Hi2.out.1
      have hp1 := Hi2.out.2
      have hcell2 := tabled_at HT.out _ hp0 hp1
      have Hfin := Aside0.mk (Crc.walk_byte N c hb0 (by omega))
      go_wp2
      go_round
      case rel => exact ⟨k + 1, by omega, by go_num, by rw [Hfin.out, reg_snoc _ _ k hlt, Hst.out, Hc.out]⟩
      case measure => simp [intOf]; omega
    · have hfin : bits BinOp.xor IntKind.u32 IntKind.u32.max (N.toNat : Int) = Crc.crc l0 := by
        rw [Crc.not_xor, ← Hst.out, List.take_of_length_le (by omega)]; rfl
      have Hfin := Aside0.mk hfin
      clear hfin
      go_wp2
      all_goals
        go_ret
        exact ⟨by rw [← Hfin.out]; rfl, HW.out⟩
theorem sum_Of.calls (A0 : Option Addr) (c0 : Nat) (l0 : List Int) (r : Int) (w : World) (hr0 : Kd.C (Kd.int .u8) w A0 l0.length l0) (hc0 : l0.length ≤ c0) (h : sum_Of.f l0 = some r) :
    Calls Try.prog 10 #[.slice A0 l0.length c0] w fun e w' => e = .returned (.int .u32 r) ∧ Below w.heap.size w w' := by
  unfold sum_Of.f at h
  split at h
  · rename_i hB
    obtain rfl := Option.some.inj h
    exact Of_any A0 c0 l0 w hr0 hc0 hB
  · cases h
end Go.Proofs.Ytcjifdgbammocaa.Hand
