/- The document's reader, call by call: what it answers and where it stands behind. -/
import Derived.Test.YtnidooobefoahaaReadMake
import Derived.RegionTactic
namespace Go.Proofs.Ytnidooobefoahaa.Hand
open Go.RowKit Go.Proofs.YtnidooobefoahaaW.PrintWords Go.Proofs.YtnidooobefoahaaW.PrintLast Go.Proofs.YtnidooobefoahaaW.PrintMore
set_option linter.unusedVariables false
set_option linter.unusedSimpArgs false

/-- The document's reader at block g. -/
def IsRf (w : World) (g : Nat) (B : ByteArray) (at_ e : Int) : Prop := w.heap[g]? = some (.cells #[.string B, .int .i64 at_, .int .i64 e] 34 (0, 0))
theorem IsRf.c0 {w : World} {g : Nat} {B : ByteArray} {at_ e : Int} (h : IsRf w g B at_ e) : w.cell? ⟨g, 0, none⟩ = some (.string B) := by have := blk_cell h 0; simpa using this
theorem IsRf.c1 {w : World} {g : Nat} {B : ByteArray} {at_ e : Int} (h : IsRf w g B at_ e) : w.cell? ⟨g, 1, none⟩ = some (.int .i64 at_) := by have := blk_cell h 1; simpa using this
theorem IsRf.c2 {w : World} {g : Nat} {B : ByteArray} {at_ e : Int} (h : IsRf w g B at_ e) : w.cell? ⟨g, 2, none⟩ = some (.int .i64 e) := by have := blk_cell h 2; simpa using this
theorem IsRf.fr {w : World} {g : Nat} {B : ByteArray} {at_ e : Int} (h : IsRf w g B at_ e) (j : Nat) : w.frozen? ⟨g, j, none⟩ = false := blk_frozen h j
/-- The state s, over B's bytes. -/
structure Rf (w : World) (g : Nat) (B : ByteArray) (s : RS) : Prop where
  blk : IsRf w g B (s.p : Int) s.e
  at_ : s.p ≤ B.size
  small : B.size ≤ 140737488355328
theorem Rf.below {w w' : World} {g : Nat} {B : ByteArray} {s : RS} (h : Rf w g B s) (hb : Below w.heap.size w w') : Rf w' g B s := ⟨(hb.block g (blk_lt h.blk)).trans h.blk, h.at_, h.small⟩
theorem Rf.other {w w' : World} {g k : Nat} {B : ByteArray} {s : RS} (h : Rf w g B s) (hk : Only w w' k) (hg : g ≠ k) : Rf w' g B s := ⟨(hk.block g (blk_lt h.blk) hg).trans h.blk, h.at_, h.small⟩
def RNumOut (w : World) (g : Nat) (B : ByteArray) (r : Int × RS) (x : Ending) (w' : World) : Prop := x = .returned (.int .i64 r.1) ∧ Only w w' g ∧ Rf w' g B r.2
theorem bytesOf_getD (B : ByteArray) (k : Nat) (h : k < B.size) : (bytesOf B).getD k 0 = ((B[k]'h).toNat : Int) := by
  unfold bytesOf
  have h' : k < B.data.toList.length := by rw [data_length]; exact h
  simp [List.getD_eq_getElem?_getD, List.getElem?_eq_getElem h']
  rfl
theorem bytesOf_isBy (B : ByteArray) : isBy (bytesOf B) := by
  intro x hx
  unfold bytesOf at hx
  obtain ⟨b, _, rfl⟩ := List.mem_map.1 hx
  have := b.toNat_lt
  omega
theorem isBy_mid {l : List Int} (h : isBy l) (a b : Nat) : isBy ((l.take a).drop b) := fun x hx => h x (List.mem_of_mem_take (List.mem_of_mem_drop hx))
theorem mid_snoc (l : List Int) (p k : Nat) (h : p + k < l.length) : (l.take (p + (k + 1))).drop p = (l.take (p + k)).drop p ++ [l.getD (p + k) 0] := by
  rw [show p + (k + 1) = (p + k) + 1 by omega, take_snocI l (p + k) h, List.drop_append_of_le_length (by rw [List.length_take]; omega)]
def RTakeRel (w : World) (l : List Int) (p m : Nat) (n i : Value) (wr : World) : Prop := ∃ (k q : Nat), k ≤ m ∧ i = .int .i64 (k : Int) ∧ n = .int .i64 (numOf ((l.take (p + k)).drop p)) ∧ wr = w.drewN q
set_option maxHeartbeats 1000000 in
theorem RTake_any {w : World} {g : Nat} {B : ByteArray} {s : RS} (h : Rf w g B s) (m : Nat) (hm : m ≤ 4) :
    Calls Try.prog 18 #[.pointer (some ⟨g, 0, none⟩), .int .i64 (m : Int)] w (RNumOut w g B (rNum (bytesOf B) s m)) := by
  obtain ⟨p, e⟩ := s
  obtain ⟨hblk, hat, hsm⟩ := h
  simp only at hblk hat
  have h0 := hblk.c0
  have h1 := hblk.c1
  have h2 := hblk.c2
  unfold rNum rBytes
  by_cases he : e = 0
  · subst he
    rw [if_neg (by simp), bytesOf_length]
    simp only
    have hs1 : IntKind.i64.wrap ((B.size : Int) - (p : Int)) = (B.size : Int) - (p : Int) := IntWalk.i64_in _ (by omega)
    by_cases hlt : B.size - p < m
    · rw [if_pos hlt]
      have hd : decide ((B.size : Int) - (p : Int) < (m : Int)) = true := decide_eq_true (by omega)
      have hd2 : ((B.size : Int) - (p : Int) < (m : Int)) = True := eq_true (by omega)
      have h3 := hblk.fr 2
      have HK := Aside0.mk hblk
      have HA := Aside0.mk hat
      clear hblk hlt hat
      go_enter Try.func18, Try.ntmps18
      go_wp2
      go_quiet ((fail))
      go_wp2
      go_ret
      exact ⟨rfl, (Only.drew w (by assumption) g).set 2 _, ⟨blk_put (show (World.drewN _ _).heap[g]? = _ from HK.out) 2 _ rfl, HA.out, hsm⟩⟩
    · rw [if_neg hlt]
      have hd : decide ((B.size : Int) - (p : Int) < (m : Int)) = false := decide_eq_false (by omega)
      have hd2 : ((B.size : Int) - (p : Int) < (m : Int)) = False := eq_false (by omega)
      have h3 := hblk.fr 1
      have HK := Aside0.mk hblk
      have hpm : p + m ≤ B.size := by omega
      have HA := Aside0.mk hpm
      clear hblk hlt hat hpm
      go_enter Try.func18, Try.ntmps18
      go_wp2
      go_quiet ((fail))
      go_wp2
      rename_i nq
      go_loopw [5, 6] (fun n i wr => RTakeRel w (bytesOf B) p m n i wr) (fun _ i _ => m - (intOf i).toNat)
      case atStart => exact ⟨0, _, Nat.zero_le _, rfl, by rw [Nat.add_zero, List.drop_take, Nat.sub_self, List.take_zero]; rfl, rfl⟩
      case round =>
        obtain ⟨k, q, hk, rfl, rfl, rfl⟩ := hrel
        by_cases hlt : k < m
        · have hlt' : p + k < B.size := by have := HA.out; omega
          have hN : 0 ≤ numOf (((bytesOf B).take (p + k)).drop p) ∧ numOf (((bytesOf B).take (p + k)).drop p) ≤ 4294967295 := by
            refine numOf_small _ (isBy_mid (bytesOf_isBy B) _ _) ?_
            rw [List.length_drop, List.length_take]; omega
          have HN := Aside0.mk hN
          generalize hX : numOf (((bytesOf B).take (p + k)).drop p) = N at hN ⊢
          have HX := Aside0.mk hX
          clear hX
          have e1 : IntKind.i64.wrap (N * 256) = N * 256 := IntWalk.i64_in _ (by omega)
          have e2 : IntKind.i64.wrap ((p : Int) + (k : Int)) = (p : Int) + (k : Int) := IntWalk.i64_in _ (by omega)
          have e3 : (0 : Int) ≤ (p : Int) + (k : Int) := by omega
          have e4 : (p : Int) + (k : Int) < (B.size : Int) := by omega
          have e5 : ((p : Int) + (k : Int)).toNat = p + k := by omega
          go_wp2
          go_quiet ((fail))
          go_wp2
          go_roundw
          case rel =>
            refine ⟨k + 1, _, by omega, by go_num, ?_, rfl⟩
            rw [mid_snoc _ _ _ (by rw [bytesOf_length]; exact hlt'), numOf_snoc, HX.out, bytesOf_getD B (p + k) hlt']
            have hb := (B[p + k]'hlt').toNat_lt
            congr 1
            unfold wrap64
            omega
          case measure => simp [intOf]; omega
        · obtain rfl : k = m := by omega
          have e2 : IntKind.i64.wrap ((p : Int) + (k : Int)) = (p : Int) + (k : Int) := IntWalk.i64_in _ (by have := HA.out; omega)
          have e3 : (p : Int) + (k : Int) ≤ 140737488355328 := by have := HA.out; omega
          have e4 : (0 : Int) ≤ (p : Int) + (k : Int) := by omega
          have HE : Aside0 ((p : Int) + (k : Int) = ((p + k : Nat) : Int)) := ⟨by omega⟩
          go_wp2
          go_ret
          rw [HE.out]
          exact ⟨rfl, (Only.drew w q g).set 1 _, ⟨blk_put (show (World.drewN _ _).heap[g]? = _ from HK.out) 1 _ rfl, HA.out, hsm⟩⟩
  · rw [if_pos he]
    have hz : (e != 0) = true := bne_iff_ne.mpr he
    have HK := Aside0.mk hblk
    clear hblk
    go_enter Try.func18, Try.ntmps18
    go_wp2
    go_ret
    exact ⟨rfl, Only.refl _ _, ⟨HK.out, hat, hsm⟩⟩
theorem mid_extract (B : ByteArray) (p n : Nat) (h : p + n ≤ B.size) : strOfNums (((bytesOf B).take (p + n)).drop p) = B.extract p (p + n) := by
  have e : ((bytesOf B).take (p + n)).drop p = bytesOf (B.extract p (p + n)) := by
    unfold bytesOf
    rw [ByteArray.data_extract, Array.toList_extract, List.extract_eq_take_drop, ← List.map_take, ← List.map_drop, List.drop_take, Nat.add_sub_cancel_left]
  rw [e]
  unfold bytesOf strOfNums
  rw [List.map_map]
  have : ((fun n : Int => UInt8.ofNat n.toNat) ∘ fun b : UInt8 => (b.toNat : Int)) = id := by
    funext b
    simp
  rw [this, List.map_id]
theorem rBytes_le {l : List Int} {s : RS} (h : s.p ≤ l.length) (m : Nat) : (rBytes l s m).2.p ≤ l.length := by
  unfold rBytes
  split
  · exact h
  · split
    · exact h
    · show s.p + m ≤ l.length; omega
def RTextOut (w : World) (g : Nat) (B : ByteArray) (r : List Int × RS) (x : Ending) (w' : World) : Prop := x = .returned (.string (strOfNums r.1)) ∧ Only w w' g ∧ Rf w' g B r.2
set_option maxHeartbeats 1000000 in
theorem RText_any {w : World} {g : Nat} {B : ByteArray} {s : RS} (h : Rf w g B s) (most : Int) :
    Calls Try.prog 24 #[.pointer (some ⟨g, 0, none⟩), .int .i64 most] w (RTextOut w g B (rText (bytesOf B) s most)) := by
  have hr := rNum_range (bytesOf_isBy B) s
  have HC := Aside0.mk (RTake_any h 2 (by omega))
  have hsm := h.small
  have hat : (rNum (bytesOf B) s 2).2.p ≤ B.size := by
    have := rBytes_le (l := bytesOf B) (s := s) (by rw [bytesOf_length]; exact h.at_) 2
    rw [bytesOf_length] at this
    exact this
  unfold rText
  generalize rNum (bytesOf B) s 2 = r at HC hr hat ⊢
  obtain ⟨n, p, e⟩ := r
  simp only at hr HC hat ⊢
  obtain ⟨n, rfl⟩ := Int.eq_ofNat_of_zero_le hr.1
  have hn : n ≤ 65535 := by omega
  clear h hr
  rw [Int.toNat_natCast]
  have hempty : (⟨#[]⟩ : ByteArray) = strOfNums [] := rfl
  have HEM := Aside0.mk hempty
  clear hempty
  by_cases he : e = 0
  · subst he
    by_cases hm : most < (n : Int)
    · rw [if_pos ⟨rfl, hm⟩]
      have hm1 := decide_eq_true hm
      unfold rBytes
      rw [if_pos (by simp)]
      go_enter Try.func24, Try.ntmps24
      go_wp2_with (go_at_call 18; refine HC.out.mono ?_; rintro e w1 ⟨rfl, ho, hr⟩; have HO := Aside0.mk ho; have HR := Aside0.mk hr; have h0 := hr.blk.c0; have h1 := hr.blk.c1; have h2 := hr.blk.c2; have h3 := hr.blk.fr 2; clear ho hr)
      go_ret
      exact ⟨rfl, HO.out.set 2 _, ⟨blk_put (show w1.heap[g]? = _ from HR.out.blk) 2 _ rfl, HR.out.at_, HR.out.small⟩⟩
    · rw [if_neg (by simpa using hm)]
      have hm1 := decide_eq_false hm
      unfold rBytes
      rw [if_neg (by simp), bytesOf_length]
      simp only
      by_cases hlt : B.size - p < n
      · rw [if_pos hlt]
        go_enter Try.func24, Try.ntmps24
        go_wp2_with (go_at_call 18; refine HC.out.mono ?_; rintro e w1 ⟨rfl, ho, hr⟩; have HO := Aside0.mk ho; have HR := Aside0.mk hr; have h0 := hr.blk.c0; have h1 := hr.blk.c1; have h2 := hr.blk.c2; have h3 := hr.blk.fr 2; clear ho hr)
        have hs1 : IntKind.i64.wrap ((B.size : Int) - (p : Int)) = (B.size : Int) - (p : Int) := IntWalk.i64_in _ (by omega)
        have hd : decide ((B.size : Int) - (p : Int) < (n : Int)) = true := decide_eq_true (by omega)
        have hd2 : ((B.size : Int) - (p : Int) < (n : Int)) = True := eq_true (by omega)
        go_quiet ((fail))
        go_wp2
        go_ret
        exact ⟨rfl, HO.out.trans ((Only.drew w1 (by assumption) g).set 2 _), ⟨blk_put (show (World.drewN _ _).heap[g]? = _ from HR.out.blk) 2 _ rfl, hat, hsm⟩⟩
      · rw [if_neg hlt]
        have HT := Aside0.mk (mid_extract B p n (by omega))
        have HE : Aside0 ((p : Int) + (n : Int) = ((p + n : Nat) : Int)) := ⟨by omega⟩
        have HA : Aside0 (p + n ≤ B.size) := ⟨by omega⟩
        have hs1 : IntKind.i64.wrap ((B.size : Int) - (p : Int)) = (B.size : Int) - (p : Int) := IntWalk.i64_in _ (by omega)
        have hs2 : IntKind.i64.wrap ((p : Int) + (n : Int)) = (p : Int) + (n : Int) := IntWalk.i64_in _ (by omega)
        have hd : decide ((B.size : Int) - (p : Int) < (n : Int)) = false := decide_eq_false (by omega)
        have hd2 : ((B.size : Int) - (p : Int) < (n : Int)) = False := eq_false (by omega)
        have hb1 : (p : Int) ≤ (p : Int) + (n : Int) := by omega
        have hb2 : (p : Int) + (n : Int) ≤ (B.size : Int) := by omega
        have hb0 : (0 : Int) ≤ (p : Int) + (n : Int) := by omega
        have hb3 : (p : Int) + (n : Int) ≤ 140737488355328 := by omega
        go_enter Try.func24, Try.ntmps24
        go_wp2_with (go_at_call 18; refine HC.out.mono ?_; rintro e w1 ⟨rfl, ho, hr⟩; have HO := Aside0.mk ho; have HR := Aside0.mk hr; have h0 := hr.blk.c0; have h1 := hr.blk.c1; have h2 := hr.blk.c2; have h3 := hr.blk.fr 1; clear ho hr)
        go_quiet ((fail))
        go_wp2
        go_quiet ((fail))
        go_wp2
        go_ret
        rw [HE.out]
        refine ⟨by rw [HT.out]; rfl, (HO.out.trans (Only.drew w1 _ g)).set 1 _, ⟨blk_put (show (World.drewN _ _).heap[g]? = _ from HR.out.blk) 1 _ rfl, HA.out, hsm⟩⟩
  · rw [if_neg (by simp [he])]
    have hm1 : (e != 0) = true := bne_iff_ne.mpr he
    unfold rBytes
    rw [if_pos he]
    go_enter Try.func24, Try.ntmps24
    go_wp2_with (go_at_call 18; refine HC.out.mono ?_; rintro e w1 ⟨rfl, ho, hr⟩; have HO := Aside0.mk ho; have HR := Aside0.mk hr; have h0 := hr.blk.c0; have h1 := hr.blk.c1; have h2 := hr.blk.c2; clear ho hr)
    go_ret
    exact ⟨rfl, HO.out, HR.out⟩
theorem nz_drop_true {l : List Int} {p k : Nat} (h1 : p ≤ k) (h2 : k < l.length) (h : l.getD k 0 ≠ 0) : anyNZ (l.drop p) = true := by
  refine anyNZ_of (k := k - p) (by rw [List.length_drop]; omega) ?_
  rw [List.getD_eq_getElem?_getD, List.getElem?_drop, show p + (k - p) = k by omega, ← List.getD_eq_getElem?_getD]
  exact h
theorem nz_drop_false {l : List Int} {p : Nat} (h : ∀ j, p ≤ j → j < l.length → l.getD j 0 = 0) : anyNZ (l.drop p) = false := by
  unfold anyNZ
  rw [List.any_eq_false]
  intro y hy
  obtain ⟨j, hj, rfl⟩ := List.mem_iff_getElem.1 hy
  rw [List.length_drop] at hj
  have := h (p + j) (by omega) (by omega)
  rw [List.getD_eq_getElem?_getD, List.getElem?_eq_getElem (by omega)] at this
  simpa using this
def RZeroRel (B : ByteArray) (p : Nat) (i : Value) : Prop := ∃ k : Nat, p ≤ k ∧ k ≤ B.size ∧ i = .int .i64 (k : Int) ∧ ∀ j, p ≤ j → j < k → (bytesOf B).getD j 0 = 0
def RZeroOut (w : World) (g : Nat) (B : ByteArray) (r : RS) (x : Ending) (w' : World) : Prop := x = .returned (.tuple #[]) ∧ Only w w' g ∧ Rf w' g B r
set_option maxHeartbeats 1000000 in
theorem RZero_any {w : World} {g : Nat} {B : ByteArray} {s : RS} (h : Rf w g B s) :
    Calls Try.prog 26 #[.pointer (some ⟨g, 0, none⟩)] w (RZeroOut w g B (rZero (bytesOf B) s)) := by
  obtain ⟨p, e⟩ := s
  obtain ⟨hblk, hat, hsm⟩ := h
  simp only at hblk hat
  have h0 := hblk.c0
  have h1 := hblk.c1
  have h2 := hblk.c2
  have h3 := hblk.fr 1
  have h4 := hblk.fr 2
  have HK := Aside0.mk hblk
  clear hblk
  by_cases he : e = 0
  · subst he
    go_enter Try.func26, Try.ntmps26
    go_wp2
    go_loop [2] (fun i => RZeroRel B p i) (fun i => B.size - (intOf i).toNat)
    case atStart => exact ⟨p, Nat.le_refl _, hat, rfl, fun j h1 h2 => absurd h1 (by omega)⟩
    case round =>
      obtain ⟨k, hk1, hk, rfl, hz⟩ := hrel
      have HZ := Aside0.mk hz
      clear hz
      by_cases hlt : k < B.size
      · have hlt2 : (k : Int) < (B.size : Int) := by omega
        go_wp2
        · have h5 : ((B[k].toNat : Int) != 0) = true := by assumption
          have HT := nz_drop_true (l := bytesOf B) (p := p) (k := k) hk1 (by rw [bytesOf_length]; exact hlt) (by rw [bytesOf_getD B k hlt]; exact bne_iff_ne.1 h5)
          have e : rZero (bytesOf B) ⟨p, 0⟩ = ⟨p, 3⟩ := by unfold rZero; rw [if_neg (by simp)]; simp only; rw [HT, if_pos rfl]
          rw [e]
          exact bodyPost_ret (results_none rfl _ _ _) rfl ⟨rfl, (Only.refl w g).set 2 _, ⟨blk_put (show w.heap[g]? = _ from HK.out) 2 _ rfl, hat, hsm⟩⟩
        · have h5 : ((B[k].toNat : Int) != 0) = false := by assumption
          refine ⟨⟨k + 1, by omega, by omega, by go_num, fun j hj1 hj2 => ?_⟩, by simp [intOf]; omega⟩
          by_cases hjk : j = k
          · subst hjk
            rw [bytesOf_getD B j hlt]
            simpa using h5
          · exact HZ.out j hj1 (by omega)
      · have HF := Aside0.mk (nz_drop_false (l := bytesOf B) (p := p) (fun j h1 h2 => HZ.out j h1 (by rw [bytesOf_length] at h2; omega)))
        go_wp2
        go_end0
        have e : rZero (bytesOf B) ⟨p, 0⟩ = ⟨B.size, 0⟩ := by unfold rZero; rw [if_neg (by simp)]; simp only; rw [HF.out, if_neg (by simp), bytesOf_length]
        rw [e]
        exact ⟨rfl, (Only.refl w g).set 1 _, ⟨blk_put (show w.heap[g]? = _ from HK.out) 1 _ rfl, Nat.le_refl _, hsm⟩⟩
  · have e' : rZero (bytesOf B) ⟨p, e⟩ = ⟨p, e⟩ := by unfold rZero; rw [if_pos he]
    rw [e']
    have hz : (e != 0) = true := bne_iff_ne.mpr he
    go_enter Try.func26, Try.ntmps26
    go_wp2
    exact bodyPost_ret (results_none rfl _ _ _) rfl ⟨rfl, Only.refl _ _, ⟨HK.out, hat, hsm⟩⟩
end Go.Proofs.Ytnidooobefoahaa.Hand
