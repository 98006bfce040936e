/- The plain law of QuotaBack: what is added and taken again, and what is moved there and back, is as if it had not been. -/
import Derived.Test.YtflgpbjhjomogaaQuotaP
namespace Go.Proofs.Ytflgpbjhjomogaa.C
open Go.RowKit
set_option linter.unusedVariables false

theorem get_set_self {l : List Int} {c : Nat} {y : Int} (h : c < l.length) : (l.set c y).getD c 0 = y := by
  rw [List.getD_eq_getElem?_getD, List.getElem?_set_self h]; rfl
theorem get_set_ne {l : List Int} {c d : Nat} {y : Int} (h : c ≠ d) : (l.set c y).getD d 0 = l.getD d 0 := by
  rw [List.getD_eq_getElem?_getD, List.getElem?_set_ne h, ← List.getD_eq_getElem?_getD]
theorem set_back {l : List Int} {c : Nat} (h : c < l.length) : l.set c (l.getD c 0) = l := by
  rw [List.getD_eq_getElem?_getD, List.getElem?_eq_getElem h]
  simp
theorem put_putL {l : List Int} {c n : Int} (h : c.toNat < l.length) : putL (putL l c n) c (-n) = l := by
  unfold putL
  rw [get_set_self h, List.set_set, show l.getD c.toNat 0 + n + -n = l.getD c.toNat 0 by omega, set_back h]
theorem put_putS {r s : Int} {l : List Int} {c n : Int} (h : c.toNat < l.length) : putS r (putS r s l c n) (putL l c n) c (-n) = s := by
  unfold putS putL moreQ
  rw [get_set_self h, show l.getD c.toNat 0 + n + -n = l.getD c.toNat 0 by omega]
  omega
theorem hasB_in {l : List Int} {c : Int} (h : hasB l c = true) : 0 ≤ c ∧ c.toNat < l.length := by
  unfold hasB at h
  simp only [Bool.and_eq_true, decide_eq_true_eq] at h
  omega
theorem hasB_mk {l : List Int} {c : Int} (h0 : 0 ≤ c) (h1 : c.toNat < l.length) : hasB l c = true := by
  unfold hasB
  simp only [Bool.and_eq_true, decide_eq_true_eq]
  omega
theorem takesB_in {l : List Int} {c n : Int} (h : takesB l c n = true) : 0 ≤ c ∧ c.toNat < l.length ∧ 0 ≤ n ∧ n ≤ l.getD c.toNat 0 := by
  unfold takesB at h
  simp only [Bool.and_eq_true, decide_eq_true_eq] at h
  obtain ⟨h1, h2⟩ := hasB_in h.1.1
  exact ⟨h1, h2, h.1.2, h.2⟩
theorem takesB_mk {l : List Int} {c n : Int} (h0 : 0 ≤ c) (h1 : c.toNat < l.length) (h2 : 0 ≤ n) (h3 : n ≤ l.getD c.toNat 0) : takesB l c n = true := by
  unfold takesB
  rw [hasB_mk h0 h1]
  simp only [Bool.and_eq_true, decide_eq_true_eq, Bool.true_and]
  exact ⟨h2, h3⟩

theorem add_sub {r m s c n : Int} {l : List Int} (h : fitsB r m s l c n = true) (hl : ∀ x ∈ l, 0 ≤ x) :
    takesB (addL r m s l c n) c n = true ∧ subL (addL r m s l c n) c n = l ∧ subS r (addS r m s l c n) (addL r m s l c n) c n = s := by
  obtain ⟨h1, h2, h3, h4, h5⟩ := fits_in h
  have g : 0 ≤ l.getD c.toNat 0 := by
    rw [List.getD_eq_getElem?_getD, List.getElem?_eq_getElem h2]
    exact hl _ (List.getElem_mem h2)
  have ht : takesB (addL r m s l c n) c n = true := by
    refine takesB_mk h1 (by rw [length_addL]; exact h2) h3 ?_
    unfold addL
    rw [if_pos h]
    unfold putL
    rw [get_set_self h2]
    omega
  refine ⟨ht, ?_, ?_⟩
  · unfold subL
    rw [if_pos ht]
    unfold addL
    rw [if_pos h, put_putL h2]
  · unfold subS
    rw [if_pos ht]
    unfold addS addL
    rw [if_pos h, if_pos h, put_putS h2]

/-- Bounds that a step may double. -/
structure Bnd (B : Int) (s : Int) (l : List Int) : Prop where
  s0 : -B ≤ s
  s1 : s ≤ B
  l0 : ∀ x ∈ l, 0 ≤ x ∧ x ≤ B
theorem Bnd.ok {B r m s : Int} {l : List Int} (h : Bnd B s l) (hB : B ≤ 1125899906842624) (hr : 0 ≤ r ∧ r ≤ 1073741824) (hm : 0 ≤ m ∧ m ≤ 1073741824) (hl : l.length ≤ 129) : QOk r m s l :=
  ⟨hr.1, hr.2, hm.1, hm.2, by have := h.s0; omega, by have := h.s1; omega, hl, fun x hx => by have := h.l0 x hx; omega⟩
theorem Bnd.get {B s : Int} {l : List Int} (h : Bnd B s l) (hB : 0 ≤ B) (c : Nat) : 0 ≤ l.getD c 0 ∧ l.getD c 0 ≤ B := by
  rw [List.getD_eq_getElem?_getD]
  cases hx : l[c]? with
  | none => simp; omega
  | some x => simpa using h.l0 x (List.mem_of_getElem? hx)
theorem Bnd.put {B r s c n : Int} {l : List Int} (h : Bnd B s l) (hB : 0 ≤ B) (hn : -l.getD c.toNat 0 ≤ n) (hn1 : n ≤ B) : Bnd (2 * B) (putS r s l c n) (putL l c n) := by
  obtain ⟨g0, g1⟩ := h.get hB c.toNat
  have a := h.s0
  have b := h.s1
  refine ⟨?_, ?_, fun x hx => ?_⟩
  · unfold putS moreQ
    rcases Int.le_total 0 n with h0 | h0
    · have := overQ_mono (r := r) (show l.getD c.toNat 0 ≤ l.getD c.toNat 0 + n by omega); omega
    · have := overQ_le (r := r) (show l.getD c.toNat 0 + n ≤ l.getD c.toNat 0 by omega); omega
  · unfold putS moreQ
    rcases Int.le_total 0 n with h0 | h0
    · have := overQ_le (r := r) (show l.getD c.toNat 0 ≤ l.getD c.toNat 0 + n by omega); omega
    · have := overQ_mono (r := r) (show l.getD c.toNat 0 + n ≤ l.getD c.toNat 0 by omega); omega
  · unfold putL at hx
    rcases mem_set hx with rfl | hx
    · omega
    · have := h.l0 x hx; omega
theorem Bnd.up {B B' s : Int} {l : List Int} (h : Bnd B s l) (hB : B ≤ B') : Bnd B' s l := ⟨by have := h.s0; omega, by have := h.s1; omega, fun x hx => by have := h.l0 x hx; omega⟩
theorem Bnd.sub {B r s c n : Int} {l : List Int} (h : Bnd B s l) (hB : 0 ≤ B) : Bnd (2 * B) (subS r s l c n) (subL l c n) := by
  unfold subS subL
  cases ht : takesB l c n with
  | false => exact h.up (by omega)
  | true =>
    obtain ⟨h1, h2, h3, h4⟩ := takesB_in ht
    have := (h.get hB c.toNat).2
    exact h.put hB (by omega) (by omega)
theorem Bnd.move {B r s c d n : Int} {l : List Int} (h : Bnd B s l) (hB : 0 ≤ B) : Bnd (4 * B) (moveS r s l c d n) (moveL l c d n) := by
  unfold moveS moveL
  cases ht : movesB l c d n with
  | false => exact h.up (by omega)
  | true =>
    unfold movesB at ht
    simp only [Bool.and_eq_true] at ht
    obtain ⟨h1, h2, h3, h4⟩ := takesB_in ht.2
    have h5 := (h.get hB c.toNat).2
    have h6 := h.sub (r := r) (c := c) (n := n) hB
    have h7 := (h6.get (by omega) d.toNat).1
    have h8 := h6.put (r := r) (c := d) (n := n) (by omega) (by omega) (by omega)
    rw [show 4 * B = 2 * (2 * B) by omega]
    exact h8
theorem InvA.bnd {r m : Int} {k : Nat} {s : Int} {l : List Int} (h : InvA r m k s l) (hm : m ≤ 1073741824) : Bnd ((k : Int) * 1073741824 + 1073741824) s l :=
  ⟨by have := h.s0; omega, by have := h.s1; omega, fun x hx => by have := h.l0 x hx; omega⟩

theorem move_back {r s c d n : Int} {l : List Int} (h : movesB l c d n = true) (hl : ∀ x ∈ l, 0 ≤ x) :
    movesB (moveL l c d n) d c n = true ∧ moveL (moveL l c d n) d c n = l ∧ moveS r (moveS r s l c d n) (moveL l c d n) d c n = s := by
  have hm := h
  unfold movesB at h
  simp only [Bool.and_eq_true] at h
  obtain ⟨hd, ht⟩ := h
  obtain ⟨d0, d1⟩ := hasB_in hd
  obtain ⟨c0, c1, n0, n1⟩ := takesB_in ht
  have hsL : subL l c n = putL l c (-n) := by unfold subL; rw [if_pos ht]
  have hsS : subS r s l c n = putS r s l c (-n) := by unfold subS; rw [if_pos ht]
  have hmL : moveL l c d n = putL (putL l c (-n)) d n := by unfold moveL; rw [if_pos hm, hsL]
  have hmS : moveS r s l c d n = putS r (putS r s l c (-n)) (putL l c (-n)) d n := by unfold moveS; rw [if_pos hm, hsL, hsS]
  have c1' : c.toNat < (putL l c (-n)).length := by rw [length_putL]; exact c1
  have d1' : d.toNat < (putL l c (-n)).length := by rw [length_putL]; exact d1
  have gd : 0 ≤ (putL l c (-n)).getD d.toNat 0 := by
    unfold putL
    by_cases e : c.toNat = d.toNat
    · rw [← e, get_set_self c1]; omega
    · rw [get_set_ne e, List.getD_eq_getElem?_getD, List.getElem?_eq_getElem d1]
      exact hl _ (List.getElem_mem d1)
  have ht2 : takesB (moveL l c d n) d n = true := by
    refine takesB_mk d0 (by rw [length_moveL]; exact d1) n0 ?_
    rw [hmL]
    show n ≤ ((putL l c (-n)).set d.toNat _).getD d.toNat 0
    rw [get_set_self d1']
    omega
  have hmb : movesB (moveL l c d n) d c n = true := by
    unfold movesB
    rw [ht2, hasB_mk c0 (by rw [length_moveL]; exact c1)]
    rfl
  have hs2L : subL (moveL l c d n) d n = putL l c (-n) := by unfold subL; rw [if_pos ht2, hmL, put_putL d1']
  have hs2S : subS r (moveS r s l c d n) (moveL l c d n) d n = putS r s l c (-n) := by unfold subS; rw [if_pos ht2, hmL, hmS, put_putS d1']
  have b1 := put_putL (n := -n) c1
  have b2 := put_putS (r := r) (s := s) (n := -n) c1
  rw [Int.neg_neg] at b1 b2
  refine ⟨hmb, ?_, ?_⟩
  · show moveL (moveL l c d n) d c n = l
    unfold moveL at hs2L hmb ⊢
    rw [if_pos hmb, hs2L, b1]
  · unfold moveS
    rw [if_pos hmb]
    rw [show (if movesB l c d n = true then putS r (subS r s l c n) (subL l c n) d n else s) = moveS r s l c d n from rfl, hs2S, hs2L, b2]
end Go.Proofs.Ytflgpbjhjomogaa.C
