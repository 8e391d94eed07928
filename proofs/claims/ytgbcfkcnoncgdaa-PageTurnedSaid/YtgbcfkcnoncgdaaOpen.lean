/- Arguments of struct and slice types, opened. -/
import Derived.Test.YtgbcfkcnoncgdaaWMore
import Derived.WalkKit
import Derived.ProofKit
import Derived.OpenShut
import Derived.ChangeOld
import Derived.ChangeArms
import Derived.SizedLaws
import Derived.Deep.Slices
namespace Go.Proofs.Ytgbcfkcnoncgdaa.Open
open Go.RowKit Go.Proofs.YtgbcfkcnoncgdaaW.PrintWords Go.Proofs.YtgbcfkcnoncgdaaW.PrintLast Go.Proofs.YtgbcfkcnoncgdaaW.PrintMore
set_option linter.unusedVariables false
def Opens {α : Type} (P : Program) (t : TypeId) (d : Kd α) (G : α → Prop) : Prop :=
  P.cellsOf t = d.sz ∧ ∀ (H : Type) (enc : TypeId × Value → H) (w : World) (base : Nat) (spare : Nat → Bool) (held : Bool) (fuel : Nat) (cs : List Value) (x : DataW H × List MemPlace),
    DataW.trod enc P w base spare held fuel t cs = some x → (∀ n ∈ x.1.weights P t, n ≤ reachBytes) → ∃ v, d.K w v cs ∧ G v
theorem opens_int {P : Program} {t : TypeId} {k : IntKind} (ht : P.underlying t = some (.int k)) (hc : P.cellsOf t = 1) : Opens P t (Kd.int k) (fun v => (Lit.int k v).wf = true) := by
  refine ⟨hc, fun H enc w base spare held fuel cs x h _ => ?_⟩
  obtain ⟨n, rfl, _, hw⟩ := DataW.trod_int ht h
  exact ⟨n, rfl, hw⟩
theorem opens_string {P : Program} {t : TypeId} (ht : P.underlying t = some .string) (hc : P.cellsOf t = 1) : Opens P t Kd.string (fun s => s.size ≤ 140737488351232) := by
  refine ⟨hc, fun H enc w base spare held fuel cs x h hw => ?_⟩
  obtain ⟨s, rfl, rfl, hs⟩ := DataW.trod_string ht h
  refine ⟨s, rfl, ?_⟩
  have := hw s.data.toList.length (by simp [DataW.weights])
  rw [Array.length_toList] at this
  exact this
theorem list_of_lt {α : Type} {p : Nat → α → Prop} : ∀ (n : Nat), (∀ i, i < n → ∃ x, p i x) → ∃ l : List α, l.length = n ∧ ∀ i x, l[i]? = some x → p i x
  | 0, _ => ⟨[], rfl, fun i x h => by simp at h⟩
  | n + 1, h => by
    obtain ⟨l, hl, hp⟩ := list_of_lt n (fun i hi => h i (by omega))
    obtain ⟨y, hy⟩ := h n (by omega)
    refine ⟨l ++ [y], by simp [hl], fun i x hx => ?_⟩
    by_cases hi : i < l.length
    · rw [List.getElem?_append_left hi] at hx; exact hp i x hx
    · rw [List.getElem?_append_right (by omega)] at hx
      have h0 : i - l.length = 0 := by
        rcases Nat.eq_zero_or_pos (i - l.length) with h | h
        · exact h
        · rw [List.getElem?_eq_none (by simp; omega)] at hx; cases hx
      rw [h0] at hx
      simp only [List.getElem?_cons_zero, Option.some.injEq] at hx
      subst hx
      have : i = n := by omega
      subst this; exact hy
theorem weights_mem_all {H : Type} {P : Program} {e : TypeId} : ∀ {l : List (DataW H)} {i : Nat} {d : DataW H}, l[i]? = some d → ∀ n ∈ d.weights P e, n ∈ DataW.weightsAll P e l
  | [], _, _, h, _, _ => by simp at h
  | d0 :: l, 0, d, h, n, hn => by
    simp only [List.getElem?_cons_zero, Option.some.injEq] at h
    subst h
    simp only [DataW.weightsAll, List.mem_append]; exact Or.inl hn
  | d0 :: l, i + 1, d, h, n, hn => by
    simp only [List.getElem?_cons_succ] at h
    simp only [DataW.weightsAll, List.mem_append]; exact Or.inr (weights_mem_all h n hn)
theorem opens_slice {α : Type} {P : Program} {t e : TypeId} {d : Kd α} {G : α → Prop} (b : Nat) (ht : P.underlying t = some (.slice e)) (hc : P.cellsOf t = 1) (hb : P.bytesOf e = b) (h : Opens P e d G) :
    Opens P t (Kd.slice e d) (fun l => (∀ x ∈ l, G x) ∧ l.length * b ≤ 140737488351232) := by
  obtain ⟨hsz, ho⟩ := h
  refine ⟨hc, fun H enc w base spare held fuel cs x h hw => ?_⟩
  rcases Go.Deep.open_slice ht h with ⟨rfl, rfl⟩ | ⟨a, len, cap, m, n, D, Pl, rfl, hbase, hl, hm, hmm, rfl, hx⟩
  · exact ⟨[], ⟨none, 0, rfl, Nat.le_refl _, rfl, by simp, fun h => absurd h (by simp)⟩, by simp, by simp⟩
  · have hle : len ≤ m := by rw [hmm]; split <;> omega
    have hww : ∀ i, i < len → ∀ q ∈ (D i).weights P e, q ≤ reachBytes := by
      intro i hi q hq
      refine hw q ?_
      simp only [DataW.weights, ht, List.mem_cons, List.mem_append]
      refine Or.inr (Or.inl (weights_mem_all (i := i) (d := D i) ?_ q hq))
      simp [hi]
    obtain ⟨l, hlen, hp⟩ := list_of_lt (p := fun i v => (∃ c, c.length = d.sz ∧ d.K w v c ∧ ∀ j u, c[j]? = some u → w.cell? (a.add (i * d.sz + j)) = some u) ∧ G v) len (fun i hi => by
      obtain ⟨cs', h1, h2⟩ := hx i (by omega)
      obtain ⟨v, hv, hg⟩ := ho H enc w base spare held n cs' _ h2 (hww i hi)
      obtain ⟨_, hcl, hcell⟩ := World.cells?_some h1
      rw [hsz] at hcl hcell
      refine ⟨v, ⟨cs', hcl, hv, fun j u hu => ?_⟩, hg⟩
      have hj : j < d.sz := by
        rcases Nat.lt_or_ge j cs'.length with h | h
        · omega
        · rw [List.getElem?_eq_none h] at hu; cases hu
      have := hcell j hj
      rw [Go.Deep.add_add, hu] at this
      exact this)
    have hq := hw ((len + (m - len)) * P.bytesOf e) (by simp [DataW.weights, ht])
    refine ⟨l, ⟨some a, cap, by rw [hlen], by omega, rfl, ?_, fun _ => ⟨a, rfl, fun j p hj => (hp j p hj).1⟩⟩, fun x hx => ?_, ?_⟩
    · have : maxLen ≤ 9223372036854775807 := by decide
      omega
    · obtain ⟨i, hi, rfl⟩ := List.mem_iff_getElem.1 hx
      exact (hp i _ (List.getElem?_eq_getElem hi)).2
    · rw [hb] at hq
      rw [hlen]
      have h1 : len * b ≤ (len + (m - len)) * b := Nat.mul_le_mul_right _ (by omega)
      exact Nat.le_trans h1 hq
def OpensF {α : Type} (P : Program) (fs : List Field) (off : Nat) (d : Kd α) (G : α → Prop) : Prop :=
  ∀ (H : Type) (enc : TypeId × Value → H) (w : World) (base : Nat) (spare : Nat → Bool) (held : Bool) (n : Nat) (cs : List Value) (xs : List (DataW H × List MemPlace)),
    xs.length = fs.length → cs.length = d.sz → (∀ (i : Nat) (f : Field), fs[i]? = some f → DataW.trod enc P w base spare held n f.type ((cs.drop (f.offset - off)).take (P.cellsOf f.type)) = xs[i]?) →
    (∀ m ∈ DataW.weightsEach P (fs.map (·.type)) (xs.map (·.1)), m ≤ reachBytes) → ∃ v, d.K w v cs ∧ G v
theorem opensF_one {α : Type} {P : Program} {f : Field} {off : Nat} {d : Kd α} {G : α → Prop} (hoff : f.offset = off) (h : Opens P f.type d G) : OpensF P [f] off d G := by
  intro H enc w base spare held n cs xs hxl hcl hf hw
  match xs, hxl with
  | [x], _ =>
    have h0 := hf 0 f rfl
    rw [hoff, Nat.sub_self, List.drop_zero, h.1, ← hcl, List.take_length] at h0
    refine h.2 H enc w base spare held n cs x h0 (fun m hm => hw m ?_)
    simp only [List.map_cons, List.map_nil, DataW.weightsEach, List.mem_append]
    exact Or.inl hm
theorem opensF_cons {α β : Type} {P : Program} {f : Field} {fs : List Field} {off : Nat} {d : Kd α} {d' : Kd β} {G : α → Prop} {G' : β → Prop} (hoff : f.offset = off) (hle : fs.all (fun g => decide (off + d.sz ≤ g.offset)) = true)
    (h : Opens P f.type d G) (h' : OpensF P fs (off + d.sz) d' G') : OpensF P (f :: fs) off (Kd.pair d d') (fun x => G x.1 ∧ G' x.2) := by
  intro H enc w base spare held n cs xs hxl hcl hf hw
  match xs, hxl with
  | x :: xs, hxl =>
    have hcl' : cs.length = d.sz + d'.sz := hcl
    have h0 := hf 0 f rfl
    rw [hoff, Nat.sub_self, List.drop_zero, h.1] at h0
    obtain ⟨v, hv, hg⟩ := h.2 H enc w base spare held n _ x h0 (fun m hm => hw m (by
      simp only [List.map_cons, DataW.weightsEach, List.mem_append]
      exact Or.inl hm))
    obtain ⟨v', hv', hg'⟩ := h' H enc w base spare held n (cs.drop d.sz) xs (by simpa using hxl) (by rw [List.length_drop]; omega) (fun i g hg => by
      have h1 := hf (i + 1) g (by simpa using hg)
      have h2 : off + d.sz ≤ g.offset := by
        have := List.all_eq_true.1 hle g (List.mem_of_getElem? hg)
        simpa using this
      rw [List.drop_drop, show d.sz + (g.offset - (off + d.sz)) = g.offset - off by omega]
      simpa using h1) (fun m hm => hw m (by
      simp only [List.map_cons, DataW.weightsEach, List.mem_append]
      exact Or.inr hm))
    exact ⟨(v, v'), ⟨_, _, (List.take_append_drop d.sz cs).symm, hv, hv'⟩, hg, hg'⟩
theorem opens_struct {α : Type} {P : Program} {t : TypeId} {fs : Array Field} {d : Kd α} {G : α → Prop} (ht : P.underlying t = some (.struct fs)) (hc : P.cellsOf t = d.sz) (h : OpensF P fs.toList 0 d G) : Opens P t d G := by
  refine ⟨hc, fun H enc w base spare held fuel cs x hx hw => ?_⟩
  obtain ⟨xs, n, _, rfl, hcl, hxl, hf⟩ := DataW.trod_struct ht hx
  refine h H enc w base spare held n cs xs (by simpa using hxl) (by rw [hcl, hc]) (fun i f hi => ?_) (fun m hm => hw m (by simpa [DataW.weights, ht] using hm))
  rw [Nat.sub_zero]
  exact hf i f (by simpa using hi)
theorem opens_iso {α β : Type} {P : Program} {t : TypeId} {d : Kd α} {G : α → Prop} (f : β → α) (g : α → β) (hfg : ∀ a, f (g a) = a) (h : Opens P t d G) : Opens P t (Kd.iso d f) (fun b => G (f b)) := by
  refine ⟨h.1, fun H enc w base spare held fuel cs x hx hw => ?_⟩
  obtain ⟨v, hv, hG⟩ := h.2 H enc w base spare held fuel cs x hx hw
  exact ⟨g v, by show d.K w (f (g v)) cs; rw [hfg]; exact hv, by show G (f (g v)); rw [hfg]; exact hG⟩
end Go.Proofs.Ytgbcfkcnoncgdaa.Open
