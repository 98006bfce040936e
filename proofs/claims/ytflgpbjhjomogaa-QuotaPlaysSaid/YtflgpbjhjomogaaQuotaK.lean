/- The class of worlds in which QuotaPlays goes round; the contracts in it; the plain invariant. -/
import Derived.Test.YtflgpbjhjomogaaQuotaM
namespace Go.Proofs.Ytflgpbjhjomogaa.C
open Go.RowKit
set_option linter.unusedVariables false
/-- A region that draws its order, walked in the text's order, under a class of worlds. -/
theorem wp_region_class {P : Program} {id : Nat} {Q : Exit → Act → World → Prop} {a : Act} {w : World} {l : List Oper} (C : World → Prop) (hm : P.follows .mixedOrders = true) (hB : Region.lexB .any l.toArray = true) (hC : C w.drew)
    (h : wpQuiet P l.toArray C (fun a' => ∀ w', C w' → Q .normal a' w') l a) : (Code.region id l.toArray true).wp P Q a w :=
  wp_region_quiet (C := C) hm hB hC (by simpa using h)
/-- Behind k acts: nobody has less than nothing; all together at most k times as much as one act adds. -/
structure InvP (k : Nat) (l : List Int) : Prop where
  nn : ∀ x ∈ l, 0 ≤ x
  sum : l.sum ≤ (k : Int) * 1073741824
theorem le_sum : ∀ {l : List Int}, (∀ x ∈ l, 0 ≤ x) → ∀ x ∈ l, x ≤ l.sum
  | a :: l, h, x, hx => by
    have h0 : 0 ≤ l.sum := by
      clear hx
      have : ∀ (r : List Int), (∀ x ∈ r, 0 ≤ x) → 0 ≤ r.sum := by
        intro r
        induction r with
        | nil => intro _; simp
        | cons b r ih => intro hr; have := ih (fun x hx => hr x (by simp [hx])); have := hr b (by simp); simp; omega
      exact this l (fun x hx => h x (by simp [hx]))
    rcases List.mem_cons.1 hx with rfl | hx
    · simp; omega
    · have := le_sum (fun x hx => h x (by simp [hx])) x hx
      have := h a (by simp)
      simp; omega
theorem used_le {r : Int} (hr : 0 ≤ r) : ∀ {l : List Int}, (∀ x ∈ l, 0 ≤ x) → 0 ≤ usedQ r l ∧ usedQ r l ≤ l.sum
  | [], _ => by simp [usedQ]
  | a :: l, h => by
    have ih := used_le hr (l := l) (fun x hx => h x (by simp [hx]))
    have ha := h a (by simp)
    have : 0 ≤ overQ r a ∧ overQ r a ≤ a := by unfold overQ; split <;> omega
    simp only [usedQ, List.map_cons, List.sum_cons] at ih ⊢
    omega
theorem InvP.zero (n : Nat) : InvP 0 (List.replicate n 0) :=
  ⟨fun x hx => by obtain ⟨_, rfl⟩ := List.mem_replicate.1 hx; omega, by induction n with
    | zero => simp
    | succ n ih => simp⟩
theorem InvP.bound {k : Nat} {l : List Int} (h : InvP k l) (hk : k ≤ 101) : ∀ x ∈ l, 0 ≤ x ∧ x ≤ 108447924224 := fun x hx => by
  have := le_sum h.nn x hx
  have := h.nn x hx
  have := h.sum
  omega
theorem InvP.qok {k : Nat} {l : List Int} {r m : Int} (h : InvP k l) (hk : k ≤ 101) (hl : l.length ≤ 129) (hr : 0 ≤ r ∧ r ≤ 1073741824) (hm : 0 ≤ m ∧ m ≤ 1073741824) : QOk r m (usedQ r l) l := by
  obtain ⟨u0, u1⟩ := used_le hr.1 h.nn
  have := h.sum
  exact ⟨hr.1, hr.2, hm.1, hm.2, by omega, by omega, hl, fun x hx => by have := h.bound hk x hx; omega⟩
theorem InvP.rok {k : Nat} {l : List Int} {r m : Int} (h : InvP k l) (hk : k ≤ 101) (hl : l.length ≤ 129) (hr : 0 ≤ r ∧ r ≤ 1073741824) : ROk r m l :=
  ⟨hr, hl, fun x hx => by have := h.bound hk x hx; omega⟩
theorem InvP.up {k : Nat} {l : List Int} (h : InvP k l) : InvP (k + 1) l := ⟨h.nn, by have := h.sum; omega⟩
theorem getD_nn {l : List Int} (h : ∀ x ∈ l, 0 ≤ x) (c : Nat) : 0 ≤ l.getD c 0 := by
  rw [List.getD_eq_getElem?_getD]
  cases hy : l[c]? with
  | none => simp
  | some y => simpa using h y (List.mem_of_getElem? hy)
theorem InvP.put {k : Nat} {l : List Int} {c n : Int} (h : InvP k l) (hc : c.toNat < l.length) (h0 : 0 ≤ l.getD c.toNat 0 + n) (h1 : l.sum + n ≤ ((k + 1 : Nat) : Int) * 1073741824) : InvP (k + 1) (putL l c n) := by
  unfold putL
  refine ⟨fun x hx => ?_, ?_⟩
  · rcases mem_set hx with rfl | hx
    · exact h0
    · exact h.nn x hx
  · rw [sum_set _ _ _ hc]
    omega
theorem InvP.add {k : Nat} {l : List Int} {r m s c n : Int} (h : InvP k l) : InvP (k + 1) (addL r m s l c n) := by
  unfold addL
  cases hf : fitsB r m s l c n with
  | false => exact h.up
  | true =>
    obtain ⟨h1, h2, h3, h4, _⟩ := fits_in hf
    simp only [if_true]
    have := getD_nn h.nn c.toNat
    have := h.sum
    exact h.put h2 (by omega) (by omega)
theorem InvP.sub {k : Nat} {l : List Int} {c n : Int} (h : InvP k l) : InvP (k + 1) (subL l c n) := by
  unfold subL
  cases hf : takesB l c n with
  | false => exact h.up
  | true =>
    obtain ⟨h1, h2, h3, h4⟩ := takesB_in hf
    simp only [if_true]
    have := h.sum
    exact h.put h2 (by omega) (by omega)
theorem InvP.move {k : Nat} {l : List Int} {c d n : Int} (h : InvP k l) : InvP (k + 1) (moveL l c d n) := by
  unfold moveL
  cases hm : movesB l c d n with
  | false => exact h.up
  | true =>
    simp only [if_true]
    unfold movesB at hm
    simp only [Bool.and_eq_true] at hm
    obtain ⟨hd, ht⟩ := hm
    obtain ⟨h1, h2, h3, h4⟩ := takesB_in ht
    obtain ⟨d0, d1⟩ := hasB_in hd
    have hs : subL l c n = putL l c (-n) := by unfold subL; rw [if_pos ht]
    have hsum : (subL l c n).sum = l.sum - n := by rw [hs]; unfold putL; rw [sum_set _ _ _ h2]; omega
    have hnn : ∀ x ∈ subL l c n, 0 ≤ x := by
      intro x hx
      rw [hs] at hx
      unfold putL at hx
      rcases mem_set hx with rfl | hx
      · omega
      · exact h.nn x hx
    have := getD_nn hnn d.toNat
    have := h.sum
    refine ⟨fun x hx => ?_, ?_⟩
    · unfold putL at hx
      rcases mem_set hx with rfl | hx
      · omega
      · exact hnn x hx
    · unfold putL
      rw [sum_set _ _ _ (by rw [length_subL]; exact d1)]
      omega
theorem used_add {r m c n : Int} {l : List Int} : usedQ r (addL r m (usedQ r l) l c n) = addS r m (usedQ r l) l c n := by
  unfold addL addS
  cases hf : fitsB r m (usedQ r l) l c n with
  | false => rfl
  | true => simp only [if_true]; exact used_put (fits_in hf).2.1
theorem used_sub {r c n : Int} {l : List Int} : usedQ r (subL l c n) = subS r (usedQ r l) l c n := by
  unfold subL subS
  cases hf : takesB l c n with
  | false => rfl
  | true => simp only [if_true]; exact used_put (takesB_in hf).2.1
theorem used_move {r c d n : Int} {l : List Int} : usedQ r (moveL l c d n) = moveS r (usedQ r l) l c d n := by
  unfold moveL moveS
  cases hm : movesB l c d n with
  | false => rfl
  | true =>
    simp only [if_true]
    unfold movesB at hm
    simp only [Bool.and_eq_true] at hm
    rw [used_put (by rw [length_subL]; exact (hasB_in hm.1).2), used_sub]
/-- Where QuotaPlays stands: the program's quota has lq, the reference's value, in its box, lr. -/
structure PK (w0 : World) (base bw qb g cap : Nat) (r m : Int) (lq lr : List Int) (w : World) : Prop where
  q : QAt w (qb + 1) qb r m (usedQ r lq) lq
  row : RAt w base g cap lr
  box : w.heap[bw]? = some (.cells #[.slice (some ⟨g, 0, none⟩) lr.length cap, .int .i64 r, .int .i64 m] 52 (0, 0))
  below : Below w0.heap.size w0 w
  at0 : w0.heap.size ≤ qb
  at1 : qb + 1 < base
  at2 : base ≤ bw
section
variable {w0 w : World} {base bw qb g cap : Nat} {r m : Int} {lq lr : List Int}
theorem PK.drewN (h : PK w0 base bw qb g cap r m lq lr w) (n : Nat) : PK w0 base bw qb g cap r m lq lr (w.drewN n) := ⟨h.q.drewN n, h.row, h.box, below_drewN h.below n, h.at0, h.at1, h.at2⟩
theorem PK.drew (h : PK w0 base bw qb g cap r m lq lr w) : PK w0 base bw qb g cap r m lq lr w.drew := ⟨⟨h.q.ptr, h.q.row⟩, h.row, h.box, h.below.drew, h.at0, h.at1, h.at2⟩
theorem PK.next (h : PK w0 base bw qb g cap r m lq lr w) {w' : World} (p : Below w.heap.size w w') : PK w0 base bw qb g cap r m lq lr w' :=
  ⟨h.q.below p, h.row.below p, keepB p h.box, h.below.trans (p.mono h.below.size), h.at0, h.at1, h.at2⟩
theorem PK.two (h : PK w0 base bw qb g cap r m lq lr w) {w' : World} {lq' : List Int} (hq : QAt w' (qb + 1) qb r m (usedQ r lq') lq') (p : Two (qb + 1) qb w w') : PK w0 base bw qb g cap r m lq' lr w' := by
  have h0 := h.at0
  have h1 := h.at1
  have h2 := h.at2
  exact ⟨hq, h.row.two p (by omega) (by omega), (p.block bw (Array.getElem?_eq_some_iff.1 h.box).1 (by omega) (by omega)).trans h.box, h.below.trans (p.below h.below.size (by omega) (by omega)), h0, h1, h2⟩
theorem PK.store (h : PK w0 base bw qb g cap r m lq lr w) {g' cap' : Nat} {lr' : List Int} (hr : RAt w base g' cap' lr') :
    PK w0 base bw qb g' cap' r m lq lr' (((w.setCell ⟨bw, 0, none⟩ (.slice (some ⟨g', 0, none⟩) lr'.length cap')).setCell ⟨bw, 1, none⟩ (.int .i64 r)).setCell ⟨bw, 2, none⟩ (.int .i64 m)) := by
  have h0 := h.at0
  have h1 := h.at1
  have h2 := h.at2
  obtain ⟨s1, s2⟩ := hr.stored (hr.ne h.box) h.below (b := bw) (by omega) (.slice (some ⟨g', 0, none⟩) lr'.length cap') (.int .i64 r) (.int .i64 m)
  have ht : Two bw bw w (((w.setCell ⟨bw, 0, none⟩ (.slice (some ⟨g', 0, none⟩) lr'.length cap')).setCell ⟨bw, 1, none⟩ (.int .i64 r)).setCell ⟨bw, 2, none⟩ (.int .i64 m)) :=
    ((((Two.refl bw bw w).setCell (.inl rfl) _).setCell (.inl rfl) _).setCell (.inl rfl) _)
  exact ⟨h.q.two ht (by omega) (by omega) (by omega) (by omega), s1, box3 h.box _ _ _, s2, h0, h1, h2⟩
end
end Go.Proofs.Ytflgpbjhjomogaa.C
