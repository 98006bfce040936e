/- Rings, plain: a queue in a row that goes round. No program in sight. -/
namespace Go.Proofs.Ytpeedbnboghafaa.C
theorem lt_of_some {α : Type} {l : List α} {i : Nat} {p : α} (h : l[i]? = some p) : i < l.length := by
  rcases Nat.lt_or_ge i l.length with h' | h'
  · exact h'
  · rw [List.getElem?_eq_none h'] at h; cases h
theorem get_set {α : Type} {l : List α} {i j : Nat} {q p : α} (h : (l.set i q)[j]? = some p) : (j = i ∧ p = q) ∨ (j ≠ i ∧ l[j]? = some p) := by
  by_cases e : i = j
  · subst e
    have hl := lt_of_some h
    rw [List.length_set] at hl
    rw [List.getElem?_set_self hl] at h
    exact .inl ⟨rfl, by injection h with h; exact h.symm⟩
  · rw [List.getElem?_set_ne e] at h
    exact .inr ⟨fun h' => e h'.symm, h⟩
/-- Where the k-th one lies. -/
def pl (first k room : Nat) : Nat := (first + k) % room
theorem pl_lt {first k room : Nat} (h : 0 < room) : pl first k room < room := Nat.mod_lt _ h
theorem pl_eq {first k room : Nat} (h1 : first < room) (h2 : k ≤ room) : pl first k room = if first + k < room then first + k else first + k - room := by
  unfold pl
  split
  · rename_i h; exact Nat.mod_eq_of_lt h
  · rename_i h
    rw [Nat.mod_eq_sub_mod (by omega), Nat.mod_eq_of_lt (by omega)]
theorem pl_inj {first i j room : Nat} (h1 : first < room) (hi : i < room) (hj : j < room) (h : pl first i room = pl first j room) : i = j := by
  rw [pl_eq h1 (by omega), pl_eq h1 (by omega)] at h
  split at h <;> split at h <;> omega
theorem pl_zero {first room : Nat} (h1 : first < room) : pl first 0 room = first := by unfold pl; exact Nat.mod_eq_of_lt h1
theorem pl_succ {first k room : Nat} (h1 : first < room) (h2 : k < room) : pl (pl first 1 room) k room = pl first (k + 1) room := by
  have : pl first 1 room < room := pl_lt (by omega)
  rw [pl_eq this (by omega), pl_eq h1 (by omega : k + 1 ≤ room), pl_eq h1 (by omega)]
  split <;> split <;> split <;> omega
variable {X : Type}
/-- The queue q lies in the row xs from first on. -/
structure RInv (xs : List X) (first : Nat) (q : List X) : Prop where
  fst : first < xs.length
  len : q.length ≤ xs.length
  at_ : ∀ (k : Nat) (x : X), q[k]? = some x → xs[pl first k xs.length]? = some x
theorem RInv.new (z : X) (n : Nat) (h : 0 < n) : RInv (List.replicate n z) 0 [] := ⟨by simpa using h, by simp, fun k x h => by simp at h⟩
theorem RInv.push {xs : List X} {first : Nat} {q : List X} (h : RInv xs first q) (hl : q.length < xs.length) (x : X) : RInv (xs.set (pl first q.length xs.length) x) first (q ++ [x]) := by
  refine ⟨by rw [List.length_set]; exact h.fst, by rw [List.length_set]; simp; omega, fun k y hk => ?_⟩
  rw [List.length_set]
  rcases Nat.lt_or_ge k q.length with hlt | hge
  · rw [List.getElem?_append_left hlt] at hk
    have := h.at_ k y hk
    rw [List.getElem?_set_ne (fun e => by have := pl_inj h.fst (by omega) (by omega) e; omega)]
    exact this
  · have hk' := lt_of_some hk
    simp at hk'
    obtain rfl : k = q.length := by omega
    simp at hk
    rw [List.getElem?_set_self (pl_lt (by have := h.fst; omega)), hk]
theorem RInv.pop {xs : List X} {first : Nat} {x : X} {t : List X} (h : RInv xs first (x :: t)) (z : X) : xs[first]? = some x ∧ RInv (xs.set first z) (pl first 1 xs.length) t := by
  have hl := h.len
  simp at hl
  refine ⟨by have := h.at_ 0 x rfl; rwa [pl_zero h.fst] at this, ⟨by rw [List.length_set]; exact pl_lt (by have := h.fst; omega), by rw [List.length_set]; omega, fun k y hk => ?_⟩⟩
  have hk' := lt_of_some hk
  rw [List.length_set, pl_succ h.fst (by omega)]
  have := h.at_ (k + 1) y (by simpa using hk)
  rw [List.getElem?_set_ne (fun e => by
    have e' : pl first 0 xs.length = pl first (k + 1) xs.length := by rw [pl_zero h.fst]; exact e
    have := pl_inj h.fst (by omega) (by omega) e'
    omega)]
  exact this
/-- The row while a cut is under way: those behind c moved up to place i. -/
structure RCut (xs0 xs : List X) (first : Nat) (q : List X) (c i : Nat) : Prop where
  len : xs.length = xs0.length
  low : ∀ (k : Nat) (x : X), k < i → (q.eraseIdx c)[k]? = some x → xs[pl first k xs0.length]? = some x
  high : ∀ (k : Nat) (x : X), i ≤ k → q[k]? = some x → xs[pl first k xs0.length]? = some x
theorem RCut.start {xs : List X} {first : Nat} {q : List X} (h : RInv xs first q) (c : Nat) : RCut xs xs first q c c :=
  ⟨rfl, fun k x hk hx => h.at_ k x (by rwa [List.getElem?_eraseIdx_of_lt hk] at hx), fun k x _ hx => h.at_ k x hx⟩
theorem RCut.step {xs0 xs : List X} {first : Nat} {q : List X} {c i : Nat} (h : RCut xs0 xs first q c i) (hf : first < xs0.length) (hq : q.length ≤ xs0.length) (hc : c ≤ i) (hi : i + 1 < q.length) {x : X} (hx : q[i + 1]? = some x) :
    xs[pl first (i + 1) xs0.length]? = some x ∧ RCut xs0 (xs.set (pl first i xs0.length) x) first q c (i + 1) := by
  refine ⟨h.high (i + 1) x (by omega) hx, ⟨by rw [List.length_set]; exact h.len, fun k y hk hy => ?_, fun k y hk hy => ?_⟩⟩
  · by_cases e : k = i
    · subst e
      rw [List.getElem?_set_self (by rw [h.len]; exact pl_lt (by omega))]
      rw [List.getElem?_eraseIdx_of_ge hc, hx] at hy
      exact hy
    · rw [List.getElem?_set_ne (fun e' => e (pl_inj hf (by omega) (by omega) e').symm)]
      exact h.low k y (by omega) hy
  · have := lt_of_some hy
    rw [List.getElem?_set_ne (fun e' => by have := pl_inj hf (by omega) (by omega) e'; omega)]
    exact h.high k y (by omega) hy
theorem RCut.done {xs0 xs : List X} {first : Nat} {q : List X} {c i : Nat} (h : RCut xs0 xs first q c i) (hf : first < xs0.length) (hq : q.length ≤ xs0.length) (hc : c < q.length) (hi : i + 1 = q.length) (z : X) :
    RInv (xs.set (pl first (q.length - 1) xs.length) z) first (q.eraseIdx c) := by
  have he : (q.eraseIdx c).length = q.length - 1 := List.length_eraseIdx_of_lt hc
  refine ⟨by rw [List.length_set, h.len]; exact hf, by rw [List.length_set, h.len, he]; omega, fun k y hk => ?_⟩
  have := lt_of_some hk
  rw [List.length_set, h.len, List.getElem?_set_ne (fun e' => by have := pl_inj hf (by omega) (by omega) e'; omega)]
  exact h.low k y (by omega) hk
end Go.Proofs.Ytpeedbnboghafaa.C
