/- PageKinds: a page that can be is of no other kind (but a leaf), and unlike pages have unlike bytes. -/
import Derived.Test.YtgbcfkcnoncgdaaSp16
import Derived.Test.YtgbcfkcnoncgdaaOpenPage
import Derived.Test.YtgbcfkcnoncgdaaAwakePure
import Derived.Test.YtgbcfkcnoncgdaaInjPure
import Derived.Test.YtgbcfkcnoncgdaaSamePure
namespace Go.Proofs.Ytgbcfkcnoncgdaa.Pure
open Go.Proofs.Ytgbcfkcnoncgdaa.Hand Go.Proofs.Ytgbcfkcnoncgdaa.OpenPage
open Go.RowKit Go.Proofs.Ytgbcfkcnoncgdaa.Sp Go.Proofs.YtgbcfkcnoncgdaaW.PrintWords Go.Proofs.YtgbcfkcnoncgdaaW.PrintLast Go.Proofs.YtgbcfkcnoncgdaaW.PrintMore
set_option linter.unusedVariables false

attribute [local irreducible] textL cellL kidL num16 sealL padL strOfNums

theorem enc_all (kind : Int) (cells : List S57) (kids : List S61) (piece : ByteArray) (next : Int) : (encL kind cells kids piece next).all isB = true :=
  sealL_bytes (padL_all (bodyL_all kind cells kids piece next))
theorem other_kind {kind x : Int} {cells : List S57} {kids : List S61} {piece : ByteArray} {next : Int} (h : rightB kind cells kids piece next = true) (hx : rightB x cells kids piece next = true) (hne : x ≠ kind) : kind = 1 := by
  unfold rightB at h hx
  by_cases k1 : kind = 1
  · exact k1
  · rw [if_neg k1] at h
    by_cases k2 : kind = 2
    · rw [if_pos k2] at h
      simp only [Bool.and_eq_true, decide_eq_true_eq] at h
      split at hx
      · simp only [Bool.and_eq_true, decide_eq_true_eq] at hx; omega
      · split at hx
        · omega
        · split at hx
          · simp only [Bool.and_eq_true, decide_eq_true_eq] at hx; omega
          · cases hx
    · rw [if_neg k2] at h
      by_cases k3 : kind = 3
      · rw [if_pos k3] at h
        simp only [Bool.and_eq_true, decide_eq_true_eq] at h
        split at hx
        · simp only [Bool.and_eq_true, decide_eq_true_eq] at hx; omega
        · split at hx
          · simp only [Bool.and_eq_true, decide_eq_true_eq] at hx; omega
          · split at hx
            · omega
            · cases hx
      · rw [if_neg k3] at h; cases h

theorem w2 : wrap64 (1 + 1) = 2 := by rw [wrap_in (by omega) (by omega)]; rfl
theorem w3 : wrap64 (2 + 1) = 3 := by rw [wrap_in (by omega) (by omega)]; rfl
theorem w4 : wrap64 (3 + 1) = 4 := by rw [wrap_in (by omega) (by omega)]; rfl

section
variable (k1 k2 : Int) (c1 c2 : List S64) (d1 d2 : List S65) (p1 p2 : ByteArray) (n1 n2 : Int)

theorem kinds_end (h1 : c1.length ≤ 40 ∧ d1.length ≤ 40) (h2 : c2.length ≤ 40 ∧ d2.length ≤ 40) (r1 : rightB k1 (c1.map cv) (d1.map cw) p1 n1 = true) (r2 : rightB k2 (c2.map cv) (d2.map cw) p2 n2 = true) (k : Nat) (hk : 1000 < k) :
    pageKinds0.l0 k 4 k1 c1 d1 p1 n1 k2 c2 d2 p2 n2 = some true := by
  obtain ⟨k, rfl⟩ : ∃ m, k = m + 1 := ⟨k - 1, by omega⟩
  have l1 : (c1.map cv).length = c1.length := List.length_map ..
  have l2 : (d1.map cw).length = d1.length := List.length_map ..
  have l3 : (c2.map cv).length = c2.length := List.length_map ..
  have l4 : (d2.map cw).length = d2.length := List.length_map ..
  simp only [pageKinds0.l0]
  rw [if_neg (by decide), made_f k1 c1 d1 p1 n1 h1.1 h1.2 k (by omega), Option.bind_some]
  dsimp only
  rw [encode_f k1 _ _ p1 n1 (by omega) (by omega) k (by omega), if_pos r1, Option.bind_some, made_f k2 c2 d2 p2 n2 h2.1 h2.2 k (by omega), Option.bind_some]
  dsimp only
  rw [encode_f k2 _ _ p2 n2 (by omega) (by omega) k (by omega), if_pos r2, Option.bind_some, if_pos rfl, if_pos rfl]
  obtain ⟨b, hb, hb2⟩ := same_f k1 k2 c1 c2 d1 d2 p1 p2 n1 n2 (by omega) (by omega) k (by omega)
  rw [hb, Option.bind_some]
  congr 1
  rw [beq_iff_eq, Bool.eq_iff_iff, beq_str, hb2]
  constructor
  · intro h
    have h' := congrArg bytesOf h
    rw [bytes_str (enc_all ..), bytes_str (enc_all ..)] at h'
    obtain ⟨e1, e2, e3, e4, e5⟩ := enc_inj r1 r2 h'
    exact ⟨e1, cv_inj e2, cw_inj e3, e4, e5⟩
  · rintro ⟨rfl, rfl, rfl, rfl, rfl⟩
    rfl

theorem kinds_step (x : Int) (h3 : x ≤ 3) (h1 : c1.length ≤ 40 ∧ d1.length ≤ 40) (r1 : rightB k1 (c1.map cv) (d1.map cw) p1 n1 = true) (k : Nat) (hk : 1000 < k) :
    pageKinds0.l0 (k + 1) x k1 c1 d1 p1 n1 k2 c2 d2 p2 n2 = pageKinds0.l0 k (wrap64 (x + 1)) k1 c1 d1 p1 n1 k2 c2 d2 p2 n2 := by
  have l1 : (c1.map cv).length = c1.length := List.length_map ..
  have l2 : (d1.map cw).length = d1.length := List.length_map ..
  rw [pageKinds0.l0]
  rw [if_pos h3, made_f k1 c1 d1 p1 n1 h1.1 h1.2 k (by omega), Option.bind_some]
  dsimp only
  by_cases e : x = k1
  · rw [if_pos e]
  · rw [if_neg e, right_f x _ _ p1 n1 (by omega) (by omega) k (by omega), Option.bind_some]
    by_cases hr : rightB x (c1.map cv) (d1.map cw) p1 n1 = true
    · rw [if_pos hr, if_pos (other_kind r1 hr e)]
    · rw [if_neg hr]

theorem PageKinds (hF : Fits k1 c1 d1 p1 n1) (hG : Fits k2 c2 d2 p2 n2) : ∃ k, pageKinds0.f k k1 c1 d1 p1 n1 k2 c2 d2 p2 n2 = some true := by
  have z1 := hF.cells
  have z2 := hF.kids
  have z3 := hG.cells
  have z4 := hG.kids
  refine ⟨10000 + 1, ?_⟩
  have awk : ∀ m, 50 < m → ((sapwoodlaw04_awake.f m).bind fun t334 => (some t334)) = some true := fun m hm => by rw [awake_f m hm]; rfl
  unfold pageKinds0.f
  rw [awake_f _ (by omega), Option.bind_some, if_pos rfl]
  obtain ⟨b, hb, hs⟩ := few_f k1 c1 d1 p1 n1 (10000 + 1) (by omega)
  obtain ⟨b', hb', hs'⟩ := few_f k2 c2 d2 p2 n2 (10000 + 1) (by omega)
  rw [hb, Option.bind_some, hb', Option.bind_some]
  simp only [pageKinds0.j0]
  cases b
  · rw [if_neg (by decide), if_pos (by trivial), awk _ (by omega)]
  · obtain ⟨h1, h2, h3⟩ := hs rfl
    rw [if_pos rfl]
    cases b'
    · rw [if_neg (by decide), if_pos (by trivial), awk _ (by omega)]
    · obtain ⟨h1', h2', h3'⟩ := hs' rfl
      rw [if_pos rfl, refRight_f k1 c1 d1 p1 n1 (by omega) (by omega) _ (by omega), Option.bind_some, refRight_f k2 c2 d2 p2 n2 (by omega) (by omega) _ (by omega), Option.bind_some]
      by_cases r1 : rightB k1 (c1.map cv) (d1.map cw) p1 n1 = true
      · rw [if_pos r1]
        by_cases r2 : rightB k2 (c2.map cv) (d2.map cw) p2 n2 = true
        · rw [r2, if_neg (by decide)]
          rw [kinds_step k1 k2 c1 c2 d1 d2 p1 p2 n1 n2 1 (by omega) ⟨h1, h2⟩ r1 9999 (by omega), w2,
            kinds_step k1 k2 c1 c2 d1 d2 p1 p2 n1 n2 2 (by omega) ⟨h1, h2⟩ r1 9998 (by omega), w3,
            kinds_step k1 k2 c1 c2 d1 d2 p1 p2 n1 n2 3 (by omega) ⟨h1, h2⟩ r1 9997 (by omega), w4,
            kinds_end k1 k2 c1 c2 d1 d2 p1 p2 n1 n2 ⟨h1, h2⟩ ⟨h1', h2'⟩ r1 r2 9997 (by omega)]
        · rw [Bool.eq_false_iff.2 r2, if_pos (by trivial), awk _ (by omega)]
      · rw [if_neg r1, if_pos (by trivial), awk _ (by omega)]
end
end Go.Proofs.Ytgbcfkcnoncgdaa.Pure
