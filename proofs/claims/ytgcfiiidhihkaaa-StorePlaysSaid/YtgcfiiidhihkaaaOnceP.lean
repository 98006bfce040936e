/- Plain: as many places are in lines as all lines together have. -/
import Derived.Test.YtgcfiiidhihkaaaChainQ
namespace Go.Proofs.Ytgcfiiidhihkaaa.C
theorem nodup_le : ∀ (l r : List Nat), l.Nodup → (∀ x ∈ l, x ∈ r) → l.length ≤ r.length
  | [], r, _, _ => by simp
  | a :: l, r, hn, h => by
    rw [List.nodup_cons] at hn
    have ha := h a (by simp)
    have := nodup_le l (r.erase a) hn.2 fun x hx => (List.mem_erase_of_ne (by rintro rfl; exact hn.1 hx)).2 (h x (by simp [hx]))
    rw [List.length_erase_of_mem ha] at this
    have : 0 < r.length := List.length_pos_of_mem ha
    simp only [List.length_cons]
    omega
def sumTo (Q : List (List Nat)) (l : Nat) : Nat := ((Q.take l).map List.length).sum
theorem sumTo_succ {Q : List (List Nat)} {l : Nat} {q : List Nat} (hq : Q[l]? = some q) : sumTo Q (l + 1) = sumTo Q l + q.length := by
  unfold sumTo
  rw [List.take_add_one, hq]
  simp
def inTo (Q : List (List Nat)) (p : Nat) : Nat := ((List.range p).filter fun (x : Nat) => decide (0 ≤ lineQ Q x)).length
theorem inTo_succ (Q : List (List Nat)) (p : Nat) : inTo Q (p + 1) = if 0 ≤ lineQ Q p then inTo Q p + 1 else inTo Q p := by
  unfold inTo
  rw [List.range_succ, List.filter_append]
  by_cases h : 0 ≤ lineQ Q p <;> simp [h]
theorem inTo_le (Q : List (List Nat)) (p : Nat) : inTo Q p ≤ p := by
  unfold inTo
  have := List.length_filter_le (fun (x : Nat) => decide (0 ≤ lineQ Q x)) (List.range p)
  simpa using this
theorem sum_in {Q : List (List Nat)} {m : Nat} (h1 : ∀ (l : Nat) (q : List Nat), Q[l]? = some q → q.Nodup) (h2 : ∀ (l l' : Nat) (q q' : List Nat) (p : Nat), Q[l]? = some q → Q[l']? = some q' → p ∈ q → p ∈ q' → l = l')
    (h3 : ∀ (l : Nat) (q : List Nat) (p : Nat), Q[l]? = some q → p ∈ q → p < m) : sumTo Q Q.length = inTo Q m := by
  have e : sumTo Q Q.length = Q.flatten.length := by unfold sumTo; rw [List.take_length, List.length_flatten]
  rw [e]
  have hn : Q.flatten.Nodup := by
    unfold List.Nodup
    rw [List.pairwise_flatten]
    constructor
    · intro q hq
      obtain ⟨l, hl⟩ := List.getElem?_of_mem hq
      exact h1 l q hl
    · rw [List.pairwise_iff_getElem]
      intro i j hi hj hij x hx y hy e
      subst e
      have := h2 i j _ _ x (List.getElem?_eq_getElem hi) (List.getElem?_eq_getElem hj) hx hy
      omega
  have hr : ((List.range m).filter fun (x : Nat) => decide (0 ≤ lineQ Q x)).Nodup := List.Nodup.sublist List.filter_sublist List.nodup_range
  have hm : ∀ x, x ∈ Q.flatten ↔ x ∈ (List.range m).filter fun (x : Nat) => decide (0 ≤ lineQ Q x) := by
    intro x
    rw [List.mem_flatten, List.mem_filter, List.mem_range]
    constructor
    · rintro ⟨q, hq, hx⟩
      obtain ⟨l, hl⟩ := List.getElem?_of_mem hq
      refine ⟨h3 l q x hl hx, ?_⟩
      rcases lineQ_cases Q x with ⟨k, p', q', _, _, _, h⟩ | ⟨_, h⟩
      · simp [h]
      · exact absurd hx (h l x q rfl hl)
    · rintro ⟨_, hx⟩
      rw [decide_eq_true_eq] at hx
      rcases lineQ_cases Q x with ⟨k, p', q', e, hq, hp, _⟩ | ⟨h, _⟩
      · obtain rfl : x = p' := by omega
        exact ⟨q', List.mem_of_getElem? hq, hp⟩
      · omega
  exact Nat.le_antisymm (nodup_le _ _ hn fun x hx => (hm x).1 hx) (nodup_le _ _ hr fun x hx => (hm x).2 hx)
namespace CH
open Go.RowKit
theorem Chain.sum_in {w : World} {pb b1 b2 m : Nat} {Q : List (List Nat)} (h : Chain w pb b1 b2 Q m) : sumTo Q Q.length = inTo Q m := by
  have hn := fun l q (hq : Q[l]? = some q) => (h.nodup hq).1
  obtain ⟨ln, lk, _, h2, rfl, h4, h5⟩ := h
  exact C.sum_in hn (fun l l' q q' p hq hq' hp hp' => h2.one hq hq' hp hp') (fun l q p hq hp => h2.lt hq hp)
/-- The k-th of a line is in that line. -/
theorem Chain.line_at {w : World} {pb b1 b2 m : Nat} {Q : List (List Nat)} (h : Chain w pb b1 b2 Q m) {l k p : Nat} {q : List Nat} (hq : Q[l]? = some q) (hp : q[k]? = some p) : lineQ Q (p : Nat) = l := by
  obtain ⟨ln, lk, _, h2, rfl, h4, h5⟩ := h
  rcases lineQ_cases Q p with ⟨k', p', q', e, hq', hp', hl⟩ | ⟨_, hn⟩
  · obtain rfl : p = p' := by omega
    rw [hl, h2.one hq' hq hp' (List.mem_of_getElem? hp)]
  · exact absurd (List.mem_of_getElem? hp) (hn l p q rfl hq)
end CH
end Go.Proofs.Ytgcfiiidhihkaaa.C
