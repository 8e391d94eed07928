/- An argument of the document's page type, opened. -/
import Derived.Test.YtgbcfkcnoncgdaaRows
import Derived.Test.YtgbcfkcnoncgdaaOpen
import Derived.Test.YtgbcfkcnoncgdaaSp0
namespace Go.Proofs.Ytgbcfkcnoncgdaa.OpenPage
open Go.Proofs.Ytgbcfkcnoncgdaa.Open Go.Proofs.Ytgbcfkcnoncgdaa.Sp
open Go.RowKit Go.Proofs.YtgbcfkcnoncgdaaW.PrintWords Go.Proofs.YtgbcfkcnoncgdaaW.PrintLast Go.Proofs.YtgbcfkcnoncgdaaW.PrintMore
set_option linter.unusedVariables false
abbrev Small (s : ByteArray) : Prop := s.size ≤ 140737488351232
abbrev I64 (v : Int) : Prop := (Lit.int .i64 v).wf = true
theorem o_int : Opens Try.prog 3 (Kd.int .i64) I64 := opens_int Try.underlying3 (by kernel_rfl)
theorem o_str : Opens Try.prog 9 Kd.string Small := opens_string Try.underlying9 (by kernel_rfl)
theorem o_cell : Opens Try.prog 64 k64 (fun c => Small c.f0 ∧ Small c.f1 ∧ I64 c.f2 ∧ I64 c.f3) :=
  opens_iso (fun x : S64 => (x.f0, x.f1, x.f2, x.f3)) (fun p => ⟨p.1, p.2.1, p.2.2.1, p.2.2.2⟩) (fun _ => rfl)
    (opens_struct Try.underlying64 (by kernel_rfl) (opensF_cons rfl (by decide) o_str (opensF_cons rfl (by decide) o_str (opensF_cons rfl (by decide) o_int (opensF_one rfl o_int)))))
theorem o_kid : Opens Try.prog 65 k65 (fun c => Small c.f0 ∧ I64 c.f1) :=
  opens_iso (fun x : S65 => (x.f0, x.f1)) (fun p => ⟨p.1, p.2⟩) (fun _ => rfl)
    (opens_struct Try.underlying65 (by kernel_rfl) (opensF_cons rfl (by decide) o_str (opensF_one rfl o_int)))
def kPage : Kd (Int × List S64 × List S65 × ByteArray × Int) := Kd.pair (Kd.int .i64) (Kd.pair (Kd.slice 64 k64) (Kd.pair (Kd.slice 65 k65) (Kd.pair Kd.string (Kd.int .i64))))
structure Fits (kind : Int) (cells : List S64) (kids : List S65) (piece : ByteArray) (next : Int) : Prop where
  kind : I64 kind
  cell : ∀ c ∈ cells, Small c.f0 ∧ Small c.f1 ∧ I64 c.f2 ∧ I64 c.f3
  cells : cells.length * 48 ≤ 140737488351232
  kid : ∀ c ∈ kids, Small c.f0 ∧ I64 c.f1
  kids : kids.length * 24 ≤ 140737488351232
  piece : Small piece
  next : I64 next
theorem o_page : Opens Try.prog 35 kPage (fun p => Fits p.1 p.2.1 p.2.2.1 p.2.2.2.1 p.2.2.2.2) := by
  have h : Opens Try.prog 35 kPage _ := opens_struct Try.underlying35 (by kernel_rfl)
    (opensF_cons rfl (by decide) o_int (opensF_cons rfl (by decide) (opens_slice 48 Try.underlying32 (by kernel_rfl) (by kernel_rfl) o_cell)
      (opensF_cons rfl (by decide) (opens_slice 24 Try.underlying33 (by kernel_rfl) (by kernel_rfl) o_kid) (opensF_cons rfl (by decide) o_str (opensF_one rfl o_int)))))
  refine ⟨h.1, fun H enc w base spare held fuel cs x hx hw => ?_⟩
  obtain ⟨v, hv, h1, ⟨h2, h2'⟩, ⟨h3, h3'⟩, h4, h5⟩ := h.2 H enc w base spare held fuel cs x hx hw
  exact ⟨v, hv, ⟨h1, h2, h2', h3, h3', h4, h5⟩⟩
theorem open_page {H : Type} {enc : TypeId × Value → H} {W : World} {v : Value} {d : DataW H} {ps : List MemPlace} {r : Reach} {b0 : Nat} (hval : Value.okWide Try.prog W r b0 35 v)
    (h : DataW.Trod enc Try.prog W 0 (fun _ => true) true 35 v d ps) (hw : ∀ n ∈ d.weights Try.prog 35, n ≤ reachBytes) :
    ∃ (kind : Int) (A1 : Option Addr) (c1 : Nat) (cells : List S64) (A2 : Option Addr) (c2 : Nat) (kids : List S65) (piece : ByteArray) (next : Int),
      v = .agg #[.int .i64 kind, .slice A1 cells.length c1, .slice A2 kids.length c2, .string piece, .int .i64 next] ∧
      Kd.C k64 W A1 cells.length cells ∧ cells.length ≤ c1 ∧ Kd.C k65 W A2 kids.length kids ∧ kids.length ≤ c2 ∧ Fits kind cells kids piece next := by
  obtain ⟨cs, rfl, hsz⟩ := Go.WideShapes.okWide_struct Try.underlying35 hval
  obtain ⟨fuel, hf⟩ := h
  obtain ⟨⟨kind, cells, kids, piece, next⟩, hK, hF⟩ := o_page.2 H enc W 0 _ _ fuel _ _ hf hw
  obtain ⟨_, _, e1, rfl, ⟨_, _, rfl, ⟨A1, c1, rfl, hl1, hr1⟩, ⟨_, _, rfl, ⟨A2, c2, rfl, hl2, hr2⟩, ⟨_, _, rfl, rfl, rfl⟩⟩⟩⟩ := hK
  refine ⟨kind, A1, c1, cells, A2, c2, kids, piece, next, ?_, hr1, hl1, hr2, hl2, hF⟩
  have : cs.toList = [.int .i64 kind, .slice A1 cells.length c1, .slice A2 kids.length c2, .string piece, .int .i64 next] := by simpa [Value.cells] using e1
  rw [show cs = cs.toList.toArray by simp, this]
end Go.Proofs.Ytgbcfkcnoncgdaa.OpenPage
