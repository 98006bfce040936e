/- Chains in memory: what Push, Pop, Cut, At, Line, Len do at whatever numbers, told by plain functions on the lines. -/
import Derived.Test.YtgcfiiidhihkaaaChainD
namespace Go.Proofs.Ytgcfiiidhihkaaa.C
/-- The k-th of the l-th line; -1: there is none. -/
def atQ (Q : List (List Nat)) (l k : Int) : Int := if 0 ≤ l ∧ 0 ≤ k then (match Q[l.toNat]? with | some q => atOr q k.toNat | none => -1) else -1
/-- In which line p is; -1: in none. -/
def lineQ (Q : List (List Nat)) (p : Int) : Int := match Q.findIdx? (fun q => q.any (fun x => (x : Int) == p)) with | some k => (k : Int) | none => -1
def lenQ (Q : List (List Nat)) (l : Int) : Nat := if 0 ≤ l then (match Q[l.toNat]? with | some q => q.length | none => 0) else 0
def pushOk (Q : List (List Nat)) (m : Nat) (l p : Int) : Bool := decide (0 ≤ l ∧ l < Q.length ∧ 0 ≤ p ∧ p < m ∧ lineQ Q p = -1)
def pushQ (Q : List (List Nat)) (m : Nat) (l p : Int) : List (List Nat) := if pushOk Q m l p = true then Q.set l.toNat (Q.getD l.toNat [] ++ [p.toNat]) else Q
def cutQ (Q : List (List Nat)) (l k : Int) : List (List Nat) := if 0 ≤ atQ Q l k then Q.set l.toNat ((Q.getD l.toNat []).eraseIdx k.toNat) else Q
theorem length_pushQ (Q : List (List Nat)) (m : Nat) (l p : Int) : (pushQ Q m l p).length = Q.length := by
  unfold pushQ
  split <;> simp
theorem length_cutQ (Q : List (List Nat)) (l k : Int) : (cutQ Q l k).length = Q.length := by
  unfold cutQ
  split <;> simp
theorem atQ_ge (Q : List (List Nat)) (l k : Int) : -1 ≤ atQ Q l k := by
  unfold atQ
  split
  · split
    · unfold atOr; split <;> omega
    · omega
  · omega
theorem atQ_some {Q : List (List Nat)} {l k p : Nat} {q : List Nat} (hq : Q[l]? = some q) (hp : q[k]? = some p) : atQ Q (l : Nat) (k : Nat) = p := by
  unfold atQ
  rw [if_pos (by omega)]
  simp [hq, atOr_some hp]
theorem atQ_cases (Q : List (List Nat)) (l k : Int) : (∃ (l' k' p : Nat) (q : List Nat), l = l' ∧ k = k' ∧ Q[l']? = some q ∧ q[k']? = some p ∧ atQ Q l k = p) ∨ (atQ Q l k = -1 ∧ ∀ (l' k' : Nat) (q : List Nat), l = l' → k = k' → Q[l']? = some q → q[k']? = none) := by
  by_cases h : 0 ≤ l ∧ 0 ≤ k
  · obtain ⟨l, rfl⟩ := Int.eq_ofNat_of_zero_le h.1
    obtain ⟨k, rfl⟩ := Int.eq_ofNat_of_zero_le h.2
    cases hq : Q[l]? with
    | none =>
      refine .inr ⟨by unfold atQ; rw [if_pos h]; simp [hq], ?_⟩
      intro l' k' q e1 e2 hq'
      obtain rfl : l = l' := by omega
      rw [hq] at hq'; cases hq'
    | some q =>
      cases hp : q[k]? with
      | none =>
        refine .inr ⟨by unfold atQ; rw [if_pos h]; simp [hq, atOr, hp], ?_⟩
        intro l' k' q' e1 e2 hq'
        obtain rfl : l = l' := by omega
        obtain rfl : k = k' := by omega
        rw [hq] at hq'
        injection hq' with hq'
        subst hq'
        exact hp
      | some p => exact .inl ⟨l, k, p, q, rfl, rfl, hq, hp, atQ_some hq hp⟩
  · refine .inr ⟨by unfold atQ; rw [if_neg h], ?_⟩
    intro l' k' q e1 e2 _
    omega
theorem lineQ_cases (Q : List (List Nat)) (p : Int) : (∃ (k : Nat) (p' : Nat) (q : List Nat), p = p' ∧ Q[k]? = some q ∧ p' ∈ q ∧ lineQ Q p = k) ∨ (lineQ Q p = -1 ∧ ∀ (k p' : Nat) (q : List Nat), p = p' → Q[k]? = some q → p' ∉ q) := by
  unfold lineQ
  cases h : Q.findIdx? (fun q => q.any (fun x => (x : Int) == p)) with
  | none =>
    refine .inr ⟨rfl, ?_⟩
    rw [List.findIdx?_eq_none_iff] at h
    intro k p' q e hq hm
    have := h q (List.mem_of_getElem? hq)
    simp only [List.any_eq_false, beq_iff_eq] at this
    exact this p' hm e.symm
  | some k =>
    rw [List.findIdx?_eq_some_iff_getElem] at h
    obtain ⟨hk, h1, _⟩ := h
    simp only [List.any_eq_true, beq_iff_eq] at h1
    obtain ⟨x, hx, rfl⟩ := h1
    exact .inl ⟨k, x, Q[k], rfl, List.getElem?_eq_getElem hk, hx, rfl⟩
theorem lineQ_ge (Q : List (List Nat)) (p : Int) : -1 ≤ lineQ Q p := by
  rcases lineQ_cases Q p with ⟨k, p', q, _, _, _, h⟩ | ⟨h, _⟩ <;> omega
theorem lenQ_some {Q : List (List Nat)} {l : Nat} {q : List Nat} (hq : Q[l]? = some q) : lenQ Q (l : Nat) = q.length := by
  unfold lenQ
  rw [if_pos (by omega)]
  simp [hq]
theorem lenQ_out {Q : List (List Nat)} {l : Int} (h : ¬ (0 ≤ l ∧ l < Q.length)) : lenQ Q l = 0 := by
  unfold lenQ
  by_cases h0 : 0 ≤ l
  · rw [if_pos h0, List.getElem?_eq_none (by omega)]
  · rw [if_neg h0]
namespace CH
open Go.RowKit
set_option linter.unusedVariables false
section
variable {w : World} {pb b1 b2 m : Nat} {Q : List (List Nat)}
theorem c_len_any (l : Int) (h : Chain w pb b1 b2 Q m) :
    Calls Try.prog 29 #[.pointer (some ⟨pb, 0, none⟩), .int .i64 l] w fun e w' => e = .returned (.int .i64 (lenQ Q l : Nat)) ∧ w' = w := by
  by_cases hl : 0 ≤ l ∧ l < Q.length
  · obtain ⟨l, rfl⟩ := Int.eq_ofNat_of_zero_le hl.1
    obtain ⟨q, hq⟩ : ∃ q, Q[l]? = some q := ⟨_, List.getElem?_eq_getElem (by omega)⟩
    rw [lenQ_some hq]
    exact c_len h hq
  · rw [lenQ_out hl]
    exact c_len_no l h hl
theorem c_at_any (l k : Int) (h : Chain w pb b1 b2 Q m) :
    Calls Try.prog 31 #[.pointer (some ⟨pb, 0, none⟩), .int .i64 l, .int .i64 k] w fun e w' => e = .returned (.tuple #[.int .i64 (max (atQ Q l k) 0), .bool (decide (0 ≤ atQ Q l k))]) ∧ ∃ m, w' = w.drewN m := by
  rcases atQ_cases Q l k with ⟨l, k, p, q, rfl, rfl, hq, hp, he⟩ | ⟨he, hn⟩
  · rw [he, decide_eq_true (by omega), show max ((p : Nat) : Int) 0 = p by omega]
    exact c_at h hq hp
  · rw [he]
    exact c_at_no l k h hn
theorem c_line_any (p : Int) (h : Chain w pb b1 b2 Q m) :
    Calls Try.prog 30 #[.pointer (some ⟨pb, 0, none⟩), .int .i64 p] w fun e w' => e = .returned (.tuple #[.int .i64 (max (lineQ Q p) 0), .bool (decide (0 ≤ lineQ Q p))]) ∧ w' = w := by
  rcases lineQ_cases Q p with ⟨k, p, q, rfl, hq, hp, he⟩ | ⟨he, hn⟩
  · rw [he, decide_eq_true (by omega), show max ((k : Nat) : Int) 0 = k by omega]
    exact c_line h hq hp
  · rw [he]
    by_cases hr : p < 0 ∨ (m : Int) ≤ p
    · exact c_line_no p h hr
    · obtain ⟨p, rfl⟩ := Int.eq_ofNat_of_zero_le (show 0 ≤ p by omega)
      exact c_line_free h (by omega) fun l q hq => hn l p q rfl hq
theorem c_push_any (l p : Int) (h : Chain w pb b1 b2 Q m) :
    Calls Try.prog 28 #[.pointer (some ⟨pb, 0, none⟩), .int .i64 l, .int .i64 p] w fun e w' => e = .returned (.bool (pushOk Q m l p)) ∧ Chain w' pb b1 b2 (pushQ Q m l p) m ∧ Two b1 b2 w w' := by
  cases ho : pushOk Q m l p with
  | true =>
    have hq' : pushQ Q m l p = Q.set l.toNat (Q.getD l.toNat [] ++ [p.toNat]) := by unfold pushQ; rw [if_pos ho]
    rw [hq']
    unfold pushOk at ho
    rw [decide_eq_true_eq] at ho
    obtain ⟨h1, h2, h3, h4, h5⟩ := ho
    obtain ⟨l, rfl⟩ := Int.eq_ofNat_of_zero_le h1
    obtain ⟨p, rfl⟩ := Int.eq_ofNat_of_zero_le h3
    obtain ⟨q, hq⟩ : ∃ q, Q[l]? = some q := ⟨_, List.getElem?_eq_getElem (by omega)⟩
    rcases lineQ_cases Q p with ⟨k, p', q, _, _, _, h⟩ | ⟨_, hn⟩
    · omega
    · have := c_push h hq (show p < m by omega) fun l q hq => hn l p q rfl hq
      simpa [List.getD_eq_getElem?_getD, hq] using this
  | false =>
    have hq' : pushQ Q m l p = Q := by unfold pushQ; rw [ho, if_neg (by simp)]
    rw [hq']
    unfold pushOk at ho
    rw [decide_eq_false_iff_not] at ho
    refine (c_push_no l p h ?_).mono fun e w' ⟨h1, h2⟩ => by subst h2; exact ⟨h1, h, Two.refl _ _ _⟩
    rcases lineQ_cases Q p with ⟨k, p', q, e, hq, hp, _⟩ | ⟨h5, _⟩
    · exact .inr (.inr (.inr ⟨p', k, q, e, hq, hp⟩))
    · omega
theorem c_cut_any (l k : Int) (h : Chain w pb b1 b2 Q m) :
    Calls Try.prog 33 #[.pointer (some ⟨pb, 0, none⟩), .int .i64 l, .int .i64 k] w fun e w' => e = .returned (.tuple #[.int .i64 (max (atQ Q l k) 0), .bool (decide (0 ≤ atQ Q l k))]) ∧ Chain w' pb b1 b2 (cutQ Q l k) m ∧ Two b1 b2 w w' := by
  unfold cutQ
  rcases atQ_cases Q l k with ⟨l, k, p, q, rfl, rfl, hq, hp, he⟩ | ⟨he, hn⟩
  · rw [he, decide_eq_true (by omega), show max ((p : Nat) : Int) 0 = p by omega, if_pos (by omega)]
    have := c_cut h hq hp
    simpa [List.getD_eq_getElem?_getD, hq] using this
  · rw [he, if_neg (by omega)]
    exact (c_cut_no l k h hn).mono fun e w' ⟨h1, h2⟩ => by subst h2; exact ⟨h1, h, Two.refl _ _ _⟩
theorem c_pop_any (l : Int) (h : Chain w pb b1 b2 Q m) :
    Calls Try.prog 36 #[.pointer (some ⟨pb, 0, none⟩), .int .i64 l] w fun e w' => e = .returned (.tuple #[.int .i64 (max (atQ Q l 0) 0), .bool (decide (0 ≤ atQ Q l 0))]) ∧ Chain w' pb b1 b2 (cutQ Q l 0) m ∧ Two b1 b2 w w' := by
  have C := Lib.hid (c_cut_any l 0 h)
  generalize max (atQ Q l 0) 0 = x at *
  generalize decide (0 ≤ atQ Q l 0) = o at *
  go_enter Try.func36, Try.ntmps36
  go_wp2_with fail
  refine C.out.mono ?_
  rintro e w1 ⟨rfl, h1, h2⟩
  go_wp2
  go_ret2
  exact ⟨rfl, h1, h2⟩
theorem Chain.cut_length (h : Chain w pb b1 b2 Q m) : Q.length ≤ 129 ∧ m ≤ 4096 := by
  obtain ⟨ln, lk, _, _, _, h4, h5⟩ := h
  exact ⟨h4, h5⟩
end
end CH
end Go.Proofs.Ytgcfiiidhihkaaa.C
