/- Bytes of a string, and the calls of a script, as they lie in memory. -/
import Derived.Test.YtnidooobefoahaaAwakeFix
import Derived.Test.YtnidooobefoahaaOpenOp
namespace Go.Proofs.Ytnidooobefoahaa.Hand
open Go.RowKit Go.Proofs.Ytnidooobefoahaa.Sp Go.Proofs.Ytnidooobefoahaa.Pure Go.Proofs.Ytnidooobefoahaa.OpenOp Go.Proofs.YtnidooobefoahaaW.PrintWords Go.Proofs.YtnidooobefoahaaW.PrintLast Go.Proofs.YtnidooobefoahaaW.PrintMore
set_option linter.unusedVariables false
set_option linter.unusedSimpArgs false

theorem cvb_run (s : ByteArray) : ∀ W : World, (convert 9 23 (.string s)).run Try.prog W = .ok (.slice (some ⟨W.heap.size, 0, none⟩) (bytesOf s).length (grownCap W s.size 0 5)) (Lib.bytesWorld W 5 s) := fun W => by
  rw [bytesOf_length]; exact print_bytes 9 23 5 Try.underlying9 Try.underlying23 Try.underlying5 s W
theorem cvb_reads (s : ByteArray) (hs : s.size ≤ 9223372036854775807) (W : World) : (Kd.int .u8).C (Lib.bytesWorld W 5 s) (some ⟨W.heap.size, 0, none⟩) (bytesOf s).length (bytesOf s) := by
  rw [bytesOf_length]; exact Kd.C_of_reads (d := (0 : Int)) (h1 := fun _ => rfl) (bytes_reads W 5 s hs)
theorem cvb_cap (s : ByteArray) (W : World) : (bytesOf s).length ≤ grownCap W s.size 0 5 := by rw [bytesOf_length]; exact grownCap_ge W s.size 0 _
theorem cvb_below (s : ByteArray) {B : Nat} {w W : World} (h : Below B w W) (hB : B ≤ W.heap.size) : Below B w (Lib.bytesWorld W 5 s) := bytes_below h hB _ s

/-- A call of the script, as it lies in memory. -/
theorem op_cells {w : World} {A : Option Addr} {l : List (Int × Int)} {k : Nat} (h : Kd.C kOp w A l.length l) (hk : k < l.length) :
    ∃ ad, A = some ad ∧ w.cell? (ad.add (k * 2)) = some (.int .i64 (l.getD k (0, 0)).1) ∧ w.cell? ⟨(ad.add (k * 2)).block, (ad.add (k * 2)).off + 1, none⟩ = some (.int .i64 (l.getD k (0, 0)).2) := by
  obtain ⟨ad, c, e, hl, hK, hc⟩ := Kd.C_get h (0, 0) (k : Int) (by omega) (by omega)
  rw [Int.toNat_natCast] at hK hc
  obtain ⟨c1, c2, rfl, rfl, rfl⟩ := hK
  have h1 := hc 1 _ rfl
  rw [← add_add] at h1
  exact ⟨ad, e, hc 0 _ rfl, h1⟩
end Go.Proofs.Ytnidooobefoahaa.Hand
