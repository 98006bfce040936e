/- Chains, plain: lines of places. No program in sight. -/
import Derived.Test.YtgcfiiidhihkaaaSlabP
namespace Go.Proofs.Ytgcfiiidhihkaaa.C
/-- A line's first place, its last one, how many. -/
structure Ln where
  first : Int
  last : Int
  n : Int
/-- A place's line, and the place behind it. -/
structure Lk where
  line : Int
  next : Int
/-- The k-th of a line, or -1. -/
def atOr (q : List Nat) (k : Nat) : Int := match q[k]? with | some p => (p : Int) | none => -1
theorem atOr_some {q : List Nat} {k p : Nat} (h : q[k]? = some p) : atOr q k = p := by simp [atOr, h]
theorem atOr_none {q : List Nat} {k : Nat} (h : q.length ≤ k) : atOr q k = -1 := by simp [atOr, List.getElem?_eq_none h]
theorem atOr_lt {q : List Nat} {k : Nat} (h : k < q.length) : ∃ p : Nat, q[k]? = some p ∧ atOr q k = p := ⟨q[k], List.getElem?_eq_getElem h, by simp [atOr, h]⟩
theorem atOr_app_lt {q : List Nat} {p k : Nat} (h : k < q.length) : atOr (q ++ [p]) k = atOr q k := by simp [atOr, List.getElem?_append_left h]
theorem atOr_app {q : List Nat} {p : Nat} : atOr (q ++ [p]) q.length = p := by simp [atOr]
theorem atOr_erase (q : List Nat) (k i : Nat) : atOr (q.eraseIdx k) i = if i < k then atOr q i else atOr q (i + 1) := by
  unfold atOr
  rw [List.getElem?_eraseIdx]
  by_cases h : i < k
  · rw [if_pos h, if_pos h]
  · rw [if_neg h, if_neg h]
/-- What lies in the two rows is the lines Q. -/
structure CInv (ln : List Ln) (lk : List Lk) (Q : List (List Nat)) : Prop where
  len : ln.length = Q.length
  line : ∀ (l : Nat) (q : List Nat), Q[l]? = some q → ln[l]? = some ⟨atOr q 0, atOr q (q.length - 1), q.length⟩
  seg : ∀ (l : Nat) (q : List Nat) (k p : Nat), Q[l]? = some q → q[k]? = some p → lk[p]? = some ⟨l, atOr q (k + 1)⟩
  inj : ∀ (l : Nat) (q : List Nat) (i j p : Nat), Q[l]? = some q → q[i]? = some p → q[j]? = some p → i = j
  free : ∀ (p : Nat) (x : Lk), lk[p]? = some x → (∀ (l : Nat) (q : List Nat), Q[l]? = some q → p ∉ q) → x.line = -1
section
variable {ln : List Ln} {lk : List Lk} {Q : List (List Nat)}
theorem CInv.new (n m : Nat) : CInv (List.replicate n ⟨-1, -1, 0⟩) (List.replicate m ⟨-1, -1⟩) (List.replicate n []) := by
  have hq : ∀ (l : Nat) (q : List Nat), (List.replicate n ([] : List Nat))[l]? = some q → q = [] ∧ l < n := by
    intro l q h
    rw [List.getElem?_replicate] at h
    split at h
    · injection h with h; exact ⟨h.symm, by assumption⟩
    · cases h
  refine ⟨by simp, fun l q h => ?_, fun l q k p h hk => ?_, fun l q i j p h hi hj => ?_, fun p x h _ => ?_⟩
  · obtain ⟨rfl, hl⟩ := hq l q h
    simp [atOr, hl]
  · obtain ⟨rfl, hl⟩ := hq l q h
    simp at hk
  · obtain ⟨rfl, hl⟩ := hq l q h
    simp at hi
  · rw [List.getElem?_replicate] at h
    split at h
    · injection h with h; rw [← h]
    · cases h
theorem CInv.here (h : CInv ln lk Q) {l : Nat} {q : List Nat} {p : Nat} (hq : Q[l]? = some q) (hp : p ∈ q) : ∃ nx, lk[p]? = some ⟨l, nx⟩ := by
  obtain ⟨k, hk⟩ := List.getElem?_of_mem hp
  exact ⟨_, h.seg l q k p hq hk⟩
theorem CInv.not_mem (h : CInv ln lk Q) {p : Nat} {x : Lk} (hx : lk[p]? = some x) (hf : x.line = -1) {l : Nat} {q : List Nat} (hq : Q[l]? = some q) : p ∉ q := by
  intro hp
  obtain ⟨nx, hn⟩ := h.here hq hp
  rw [hx] at hn
  injection hn with hn
  subst hn
  have hf : ((l : Nat) : Int) = -1 := hf
  omega
theorem CInv.one (h : CInv ln lk Q) {l l' : Nat} {q q' : List Nat} {p : Nat} (hq : Q[l]? = some q) (hq' : Q[l']? = some q') (hp : p ∈ q) (hp' : p ∈ q') : l = l' := by
  obtain ⟨n1, h1⟩ := h.here hq hp
  obtain ⟨n2, h2⟩ := h.here hq' hp'
  rw [h1] at h2
  injection h2 with h2
  injection h2 with h2
  omega
theorem CInv.lt (h : CInv ln lk Q) {l : Nat} {q : List Nat} {p : Nat} (hq : Q[l]? = some q) (hp : p ∈ q) : p < lk.length := by
  obtain ⟨nx, hn⟩ := h.here hq hp
  exact lt_of_some hn
/-- What is told of a place. -/
theorem CInv.line_of (h : CInv ln lk Q) {l : Nat} {q : List Nat} {p : Nat} {x : Lk} (hq : Q[l]? = some q) (hp : p ∈ q) (hx : lk[p]? = some x) : x.line = l := by
  obtain ⟨nx, hn⟩ := h.here hq hp
  rw [hx] at hn
  injection hn with hn
  rw [hn]
/-- The rows behind a push: lk' is lk but for the old last one's next and for p. -/
theorem CInv.push (h : CInv ln lk Q) {l : Nat} {q : List Nat} {p : Nat} {x : Lk} (hq : Q[l]? = some q) (hx : lk[p]? = some x) (hf : x.line = -1) {lk' : List Lk}
    (hp : lk'[p]? = some ⟨l, -1⟩)
    (hlast : ∀ (u : Nat), q[q.length - 1]? = some u → lk'[u]? = some ⟨l, p⟩)
    (hother : ∀ (u : Nat), u ≠ p → (q[q.length - 1]? ≠ some u) → lk'[u]? = lk[u]?) :
    CInv (ln.set l ⟨if q = [] then (p : Int) else atOr q 0, p, (q.length : Int) + 1⟩) lk' (Q.set l (q ++ [p])) := by
  have hlQ := lt_of_some hq
  have hnp : ∀ (l' : Nat) (q' : List Nat), Q[l']? = some q' → p ∉ q' := fun l' q' h' => h.not_mem hx hf h'
  refine ⟨by simp [h.len], fun l' q' h' => ?_, fun l' q' k u h' hk => ?_, fun l' q' i j u h' hi hj => ?_, fun u y hu hn => ?_⟩
  · rcases get_set h' with ⟨rfl, rfl⟩ | ⟨hne, h'⟩
    · rw [List.getElem?_set_self (by rw [h.len]; exact hlQ)]
      congr 2
      · cases q with
        | nil => simp [atOr]
        | cons a r => rw [if_neg (by simp)]; exact (atOr_app_lt (by simp)).symm
      · rw [List.length_append]
        simp [atOr]
      · simp
    · rw [List.getElem?_set_ne (fun e => hne e.symm)]
      exact h.line l' q' h'
  · rcases get_set h' with ⟨rfl, rfl⟩ | ⟨hne, h'⟩
    · have hkl := lt_of_some hk
      simp at hkl
      by_cases hkq : k = q.length
      · subst hkq
        simp at hk
        subst hk
        rw [hp, atOr_none (by simp)]
      · rw [List.getElem?_append_left (by omega)] at hk
        have hup : u ≠ p := fun e => hnp l' q hq (e ▸ List.mem_of_getElem? hk)
        by_cases hkl : k = q.length - 1
        · subst hkl
          rw [hlast u hk, show q.length - 1 + 1 = q.length by omega, atOr_app]
        · have : q[q.length - 1]? ≠ some u := fun e => by have := h.inj l' q k _ u hq hk e; omega
          rw [hother u hup this, h.seg l' q k u hq hk, atOr_app_lt (by omega)]
    · have hup : u ≠ p := fun e => hnp l' q' h' (e ▸ List.mem_of_getElem? hk)
      have : q[q.length - 1]? ≠ some u := fun e => hne (h.one h' hq (List.mem_of_getElem? hk) (List.mem_of_getElem? e))
      rw [hother u hup this]
      exact h.seg l' q' k u h' hk
  · rcases get_set h' with ⟨rfl, rfl⟩ | ⟨hne, h'⟩
    · have hil := lt_of_some hi
      have hjl := lt_of_some hj
      simp at hil hjl
      by_cases h1 : i < q.length
      · rw [List.getElem?_append_left h1] at hi
        by_cases h2 : j < q.length
        · rw [List.getElem?_append_left h2] at hj
          exact h.inj l' q i j u hq hi hj
        · obtain rfl : j = q.length := by omega
          simp at hj
          subst hj
          exact absurd (List.mem_of_getElem? hi) (hnp l' q hq)
      · obtain rfl : i = q.length := by omega
        simp at hi
        subst hi
        by_cases h2 : j < q.length
        · rw [List.getElem?_append_left h2] at hj
          exact absurd (List.mem_of_getElem? hj) (hnp l' q hq)
        · omega
    · exact h.inj l' q' i j u h' hi hj
  · have hup : u ≠ p := by
      rintro rfl
      exact hn l (q ++ [u]) (List.getElem?_set_self hlQ) (by simp)
    have : q[q.length - 1]? ≠ some u := fun e => hn l (q ++ [p]) (List.getElem?_set_self hlQ) (by simp [List.mem_of_getElem? e])
    rw [hother u hup this] at hu
    refine h.free u y hu fun l' q' h' hm => ?_
    by_cases e : l' = l
    · subst e
      rw [hq] at h'
      injection h' with h'
      subst h'
      exact hn l' (q ++ [p]) (List.getElem?_set_self hlQ) (by simp [hm])
    · exact hn l' q' (by rw [List.getElem?_set_ne (fun e' => e e'.symm)]; exact h') hm
/-- .. behind a cut. -/
theorem CInv.cut (h : CInv ln lk Q) {l : Nat} {q : List Nat} {k p : Nat} (hq : Q[l]? = some q) (hk : q[k]? = some p) {lk' : List Lk}
    (hp : lk'[p]? = some ⟨-1, -1⟩)
    (hahead : ∀ (u : Nat), 0 < k → q[k - 1]? = some u → lk'[u]? = some ⟨l, atOr q (k + 1)⟩)
    (hother : ∀ (u : Nat), u ≠ p → (0 < k → q[k - 1]? ≠ some u) → lk'[u]? = lk[u]?) :
    CInv (ln.set l ⟨atOr (q.eraseIdx k) 0, atOr (q.eraseIdx k) ((q.eraseIdx k).length - 1), (q.eraseIdx k).length⟩) lk' (Q.set l (q.eraseIdx k)) := by
  have hlQ := lt_of_some hq
  have hkl := lt_of_some hk
  have hel : (q.eraseIdx k).length = q.length - 1 := List.length_eraseIdx_of_lt hkl
  refine ⟨by simp [h.len], fun l' q' h' => ?_, fun l' q' i u h' hi => ?_, fun l' q' i j u h' hi hj => ?_, fun u y hu hn => ?_⟩
  · rcases get_set h' with ⟨rfl, rfl⟩ | ⟨hne, h'⟩
    · rw [List.getElem?_set_self (by rw [h.len]; exact hlQ)]
    · rw [List.getElem?_set_ne (fun e => hne e.symm)]
      exact h.line l' q' h'
  · rcases get_set h' with ⟨rfl, rfl⟩ | ⟨hne, h'⟩
    · have hil := lt_of_some hi
      rw [hel] at hil
      rw [List.getElem?_eraseIdx] at hi
      by_cases h1 : i < k
      · rw [if_pos h1] at hi
        have hup : u ≠ p := fun e => by subst e; have := h.inj l' q i k u hq hi hk; omega
        rw [atOr_erase]
        by_cases h2 : i = k - 1
        · subst h2
          rw [hahead u (by omega) hi, if_neg (by omega), show k - 1 + 1 = k by omega]
        · rw [hother u hup (fun _ e => by have := h.inj l' q i _ u hq hi e; omega), h.seg l' q i u hq hi, if_pos (by omega)]
      · rw [if_neg h1] at hi
        have hup : u ≠ p := fun e => by subst e; have := h.inj l' q _ k u hq hi hk; omega
        rw [hother u hup (fun _ e => by have := h.inj l' q _ _ u hq hi e; omega), h.seg l' q _ u hq hi, atOr_erase, if_neg (by omega)]
    · have hup : u ≠ p := fun e => by subst e; exact hne (h.one h' hq (List.mem_of_getElem? hi) (List.mem_of_getElem? hk))
      rw [hother u hup (fun _ e => hne (h.one h' hq (List.mem_of_getElem? hi) (List.mem_of_getElem? e)))]
      exact h.seg l' q' i u h' hi
  · rcases get_set h' with ⟨rfl, rfl⟩ | ⟨hne, h'⟩
    · rw [List.getElem?_eraseIdx] at hi hj
      split at hi <;> split at hj
      all_goals
        have := h.inj l' q _ _ u hq hi hj
        omega
    · exact h.inj l' q' i j u h' hi hj
  · by_cases hup : u = p
    · subst hup
      rw [hp] at hu
      injection hu with hu
      rw [← hu]
    · have h1 : 0 < k → q[k - 1]? ≠ some u := fun h0 e => hn l (q.eraseIdx k) (List.getElem?_set_self hlQ) (List.mem_of_getElem? (i := k - 1) (by rw [List.getElem?_eraseIdx, if_pos (by omega)]; exact e))
      rw [hother u hup h1] at hu
      refine h.free u y hu fun l' q' h' hm => ?_
      by_cases e : l' = l
      · subst e
        rw [hq] at h'
        injection h' with h'
        subst h'
        obtain ⟨i, hi⟩ := List.getElem?_of_mem hm
        have hik : i ≠ k := fun e => by subst e; rw [hk] at hi; injection hi with hi; exact hup hi.symm
        refine hn l' (q.eraseIdx k) (List.getElem?_set_self hlQ) ?_
        by_cases h2 : i < k
        · exact List.mem_of_getElem? (i := i) (by rw [List.getElem?_eraseIdx, if_pos h2]; exact hi)
        · exact List.mem_of_getElem? (i := i - 1) (by rw [List.getElem?_eraseIdx, if_neg (by omega), show i - 1 + 1 = i by omega]; exact hi)
      · exact hn l' q' (by rw [List.getElem?_set_ne (fun e' => e e'.symm)]; exact h') hm
end
end Go.Proofs.Ytgcfiiidhihkaaa.C
