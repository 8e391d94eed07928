/- make with room to spare, copy from a string into it; rows of one's own that are written byte by byte. -/
import Derived.Test.YtnidooobefoahaaProg
import Derived.Test.YtnidooobefoahaaWMore
import Derived.WalkKit
import Derived.Lib.LazyBuf
import Derived.Lib.Hide
import Derived.Laws.MakeOwn
namespace Go.Proofs.Ytnidooobefoahaa.Room
open Go.RowKit Go.Proofs.YtnidooobefoahaaW.PrintWords Go.Proofs.YtnidooobefoahaaW.PrintLast Go.Proofs.YtnidooobefoahaaW.PrintMore
set_option linter.unusedVariables false
set_option linter.unusedSimpArgs false
/-- All but block g is as it was. -/
structure OnlyB (w w' : World) (g : Nat) : Prop where
  os : w'.os = w.os
  tape : w'.tape = w.tape
  output : w'.output = w.output
  size : w.heap.size ≤ w'.heap.size
  block : ∀ k, k < w.heap.size → k ≠ g → w'.heap[k]? = w.heap[k]?
theorem OnlyB.refl (w : World) (g : Nat) : OnlyB w w g := ⟨rfl, rfl, rfl, Nat.le_refl _, fun _ _ _ => rfl⟩
theorem OnlyB.set {a b : World} {g : Nat} (h : OnlyB a b g) (j : Nat) (u : Value) : OnlyB a (b.setCell ⟨g, j, none⟩ u) g :=
  ⟨h.os, h.tape, h.output, by simpa [World.setCell] using h.size, fun i hi hg => (Below.heap_setCell b ⟨g, j, none⟩ u i hg).trans (h.block i hi hg)⟩
theorem OnlyB.below {a b c : World} {g B : Nat} (h : Below B a b) (k : OnlyB b c g) (hg : B ≤ g) (hB : B ≤ b.heap.size) : Below B a c :=
  ⟨k.os.trans h.os, k.tape.trans h.tape, k.output.trans h.output, Nat.le_trans h.size k.size, fun i hi => (k.block i (by omega) (by omega)).trans (h.block i hi)⟩
/-- Bytes that one may write. -/
def Bytes (w : World) (b n : Nat) : Prop := ∀ j, j < n → (∃ v, w.cell? ⟨b, j, none⟩ = some (.int .u8 v)) ∧ w.frozen? ⟨b, j, none⟩ = false
theorem Bytes.set {w : World} {b n : Nat} (h : Bytes w b n) (k : Nat) (v : Int) : Bytes (w.setCell ⟨b, k, none⟩ (.int .u8 v)) b n := by
  intro j hj
  obtain ⟨⟨x, hx⟩, hf⟩ := h j hj
  refine ⟨?_, by rw [World.frozen?_setCell]; exact hf⟩
  by_cases e : k = j
  · subst e; exact ⟨v, World.cell?_setCell_same (h := hx) ..⟩
  · exact ⟨x, by rw [World.cell?_setCell_other (h := by intro h; injection h with _ h _; exact e h)]; exact hx⟩
theorem Bytes.other {w w' : World} {b n : Nat} (h : Bytes w b n) (hb : w'.heap[b]? = w.heap[b]?) : Bytes w' b n := by
  intro j hj
  obtain ⟨⟨x, hx⟩, hf⟩ := h j hj
  exact ⟨⟨x, by rw [World.cell?_of_block (by exact hb)]; exact hx⟩, by rw [← hf]; unfold World.frozen?; simp only [hb]⟩
theorem R_at {e base : Nat} {ok : Nat → Prop} {w : World} {A : Option Addr} {c : Nat} {l : List Int} (h : Kd.R (Kd.int .u8) e w base ok (.slice A l.length c) l) (hl : 0 < l.length) : ∃ b, A = some ⟨b, 0, none⟩ ∧ base ≤ b ∧ b < w.heap.size ∧ Bytes w b l.length := by
  obtain ⟨A', c', e1, hle, hC⟩ := Kd.R_reads h
  injection e1 with e1 _ _
  subst e1
  obtain ⟨inner, ho⟩ := Kd.R_own h
  obtain ⟨b, cap, hv, _⟩ := ho.form hl
  injection hv with h1 h2 h3
  subst h1
  refine ⟨b, rfl, own_base ho b rfl, own_lt ho b rfl, fun j hj => ?_⟩
  obtain ⟨ad, hA, hcell⟩ := (Kd.reads_of_C (enc := Value.int .u8) (d := (0 : Int)) (h1 := fun _ => rfl) hC).2.2 hl
  injection hA with hA
  subst hA
  have h4 := hcell j hj
  rw [add_plain] at h4
  refine ⟨⟨_, h4⟩, ?_⟩
  rcases ho.2 with ⟨h', _⟩ | ⟨g', cap', cur, h', _, hh, _⟩
  · cases h'
  · have : b = g' := by injection h' with h'; injection h' with h'; injection h' with h'
    subst this
    simp [World.frozen?, hh]
/-- A row stays readable: all but its own block may turn. -/
theorem C_keep {w w' : World} {c : Option Addr} {l : List Int} (h : (Kd.int .u8).C w c l.length l) (hk : 0 < l.length → ∀ ad, c = some ad → w'.heap[ad.block]? = w.heap[ad.block]?) : (Kd.int .u8).C w' c l.length l := by
  refine ⟨h.1, h.2.1, fun hn => ?_⟩
  obtain ⟨ad, e, hcell⟩ := h.2.2 hn
  refine ⟨ad, e, fun j p hp => ?_⟩
  obtain ⟨cs, h1, h2, h3⟩ := hcell j p hp
  refine ⟨cs, h1, h2, fun j2 u hu => ?_⟩
  have h4 := h3 j2 u hu
  have e2 : ∀ q, (ad.add q).block = ad.block := fun q => by unfold Addr.add; split <;> rfl
  refine (World.cell?_of_block ?_).trans h4
  rw [e2]
  exact hk hn ad e
/-- The room: s, and zeros behind it. -/
structure RoomB (w : World) (g : Nat) (s : ByteArray) (M : Nat) : Prop where
  reads : (Kd.int .u8).C w (some ⟨g, 0, none⟩) (bytesOf s).length (bytesOf s)
  zeros : ∀ j, s.size ≤ j → j < s.size + M → w.cell? ⟨g, j, none⟩ = some (.int .u8 0)
  lt : g < w.heap.size
theorem RoomB.other {w w' : World} {g : Nat} {s : ByteArray} {M : Nat} (h : RoomB w g s M) (hb : w'.heap[g]? = w.heap[g]?) (hs : w.heap.size ≤ w'.heap.size) : RoomB w' g s M :=
  ⟨C_keep h.reads (fun _ ad e => by injection e with e; subst e; exact hb), fun j h1 h2 => by rw [World.cell?_of_block (by exact hb)]; exact h.zeros j h1 h2, Nat.lt_of_lt_of_le h.lt hs⟩
theorem run_make_room {t e : TypeId} (ht : Try.prog.underlying t = some (.slice e)) (hinfo : (Try.prog.info? e).map (fun i => (i.zero, i.size, i.bytes)) = some (some (.int .u8 0), 1, 1)) (L M : Nat) (hL : L + M ≤ 1000000) (x : Int) (hx : x = (L : Int) + (M : Int)) (W : World) :
    (Instr.makeSlice t (.int .i64 (L : Int)) (.int .i64 x)).run Try.prog W = .ok (.slice (some ⟨W.heap.size, 0, none⟩) L (L + M)) (W.alloc (.cells (madeCells #[.int .u8 0] (L + M)) e)) := by
  subst hx
  obtain ⟨i, hi, hzz⟩ := Option.map_eq_some_iff.1 hinfo
  simp only [Prod.mk.injEq] at hzz
  obtain ⟨hz0, hz1, hz2⟩ := hzz
  have := run_make (P := Try.prog) W t e i (.int .u8 0) ht hi hz0 .i64 .i64 (L : Int) ((L : Int) + (M : Int)) (by omega) (by omega) (by rw [hz2]; omega) (by omega)
  rw [this, hz1, Nat.mul_one, Int.toNat_natCast, show ((L : Int) + (M : Int)).toNat = L + M by omega]
  rfl
theorem made_at (n j : Nat) (hj : j < n) : (madeCells #[Value.int .u8 0] n)[j]? = some (.int .u8 0) := by
  rw [Array.getElem?_eq_getElem (by simp [madeCells]; omega)]
  simp [madeCells, Nat.mod_one]
theorem copy_room {W : World} (dT sT e ty : TypeId) (ht : Try.prog.underlying dT = some (.slice e)) (hz : ∀ w, (Go.sizeOf e).run Try.prog w = .ok 1 w)
    {g c M : Nat} {s : ByteArray} {te : TypeId} (hblk : W.heap[g]? = some (.cells (madeCells #[Value.int .u8 0] (s.size + M)) te (0, 0))) (hsz : s.size ≤ 1000000) :
    ∃ w1, (Builtin.copy_ #[dT, sT] ty #[.slice (some ⟨g, 0, none⟩) s.size c, .string s]).run Try.prog W = .ok (goInt s.size) w1 ∧ OnlyB W w1 g ∧ RoomB w1 g s M := by
  have hcell : ∀ j, j < s.size + M → W.cell? ⟨g, j, none⟩ = some (.int .u8 0) := fun j hj => (blk_cell hblk j).trans (made_at _ j hj)
  have hr := run_copy_string (P := Try.prog) W dT sT ty e g 0 s.size c s ht hz (Nat.le_refl _) (fun j hj => by rw [Nat.zero_add, hcell j (by omega)]; rfl) (fun j hj => by simp [World.frozen?, hblk])
  have hl : (s.data.toList.map fun x => Value.int .u8 (x.toNat : Int)).length = s.size := by rw [List.length_map, data_length]
  have hsame := setCells_same g (s.data.toList.map fun x => Value.int .u8 (x.toNat : Int)) 0 W
  refine ⟨_, hr, ⟨hsame.1, hsame.2.1, hsame.2.2.1, by rw [hsame.2.2.2]; exact Nat.le_refl _, fun k hk hne => setCells_far _ 0 k hne⟩, ⟨?_, fun j h1 h2 => ?_, by rw [hsame.2.2.2]; exact (Array.getElem?_eq_some_iff.1 hblk).1⟩⟩
  · refine Kd.C_of_reads (d := (0 : Int)) (h1 := fun _ => rfl) ⟨rfl, by rw [bytesOf_length]; omega, fun _ => ⟨_, rfl, fun j hj => ?_⟩⟩
    rw [bytesOf_length] at hj
    rw [add_plain]
    have h2 := World.cell?_setCells_in g (s.data.toList.map fun x => Value.int .u8 (x.toNat : Int)) 0 W (fun j hj => by rw [Nat.zero_add, hcell j (by omega)]; rfl) j (by omega)
    rw [Nat.zero_add] at h2
    rw [h2]
    have hd : j < s.data.toList.length := by rw [data_length]; exact hj
    simp [bytesOf, List.getD_eq_getElem?_getD, List.getElem?_eq_getElem hd]
  · rw [World.cell?_setCells_out g _ 0 W _ (fun _ _ => Or.inr (by rw [hl]; simpa using h1))]
    exact hcell j h2
end Go.Proofs.Ytnidooobefoahaa.Room
