/- Chains in memory: the contracts of Push and Cut. -/
import Derived.Test.YtgcfiiidhihkaaaChainZ
namespace Go.Proofs.Ytgcfiiidhihkaaa.C.CH
open Go.RowKit
set_option linter.unusedVariables false
section
variable {w : World} {pb b1 b2 m : Nat} {Q : List (List Nat)}
theorem c_push (h : Chain w pb b1 b2 Q m) {l p : Nat} {q : List Nat} (hq : Q[l]? = some q) (hp : p < m) (hn : ∀ (l : Nat) (q : List Nat), Q[l]? = some q → p ∉ q) :
    Calls Try.prog 28 #[.pointer (some ⟨pb, 0, none⟩), .int .i64 (l : Nat), .int .i64 (p : Nat)] w fun e w' => e = .returned (.bool true) ∧ Chain w' pb b1 b2 (Q.set l (q ++ [p])) m ∧ Two b1 b2 w w' := by
  have hnd := (h.nodup hq).2
  obtain ⟨ln, lk, h1, h2, rfl, h4, h5⟩ := h
  obtain ⟨⟨xl, xn⟩, hx⟩ : ∃ x, lk[p]? = some x := ⟨_, List.getElem?_eq_getElem hp⟩
  have hf : xl = -1 := h2.free p _ hx hn
  subst hf
  have hline := h2.line l q hq
  by_cases he : q = []
  · subst he
    refine (push_first pb b1 b2 l p _ _ xn ln lk w h1 hline hx (by rw [h2.len]; omega) (by omega)).mono ?_
    rintro e w' ⟨rfl, hC, hT⟩
    have hI := h2.push hq hx rfl (lk' := lk.set p ⟨l, -1⟩) (List.getElem?_set_self (lt_of_some hx)) (fun u hu => by simp at hu) (fun u hu _ => List.getElem?_set_ne (fun e => hu e.symm))
    exact ⟨rfl, ⟨_, _, hC, hI, by rw [List.length_set], by rw [List.length_set]; exact h4, h5⟩, hT⟩
  · have hl0 : 0 < q.length := List.length_pos_iff.2 he
    obtain ⟨u, hu, hat⟩ := atOr_lt (q := q) (k := q.length - 1) (by omega)
    rw [hat] at hline
    have hz := h2.seg l q _ u hq hu
    have hup : u ≠ p := fun e => hn l q hq (e ▸ List.mem_of_getElem? hu)
    refine (push_next pb b1 b2 l p u _ _ xn _ _ ln lk w h1 hline hx hz hup (by omega) (by omega) (by rw [h2.len]; omega) (by omega)).mono ?_
    rintro e w' ⟨rfl, hC, hT⟩
    have hI := h2.push hq hx rfl (lk' := (lk.set u ⟨l, (p : Nat)⟩).set p ⟨l, -1⟩) (List.getElem?_set_self (by rw [List.length_set]; exact lt_of_some hx))
      (fun u' hu' => by
        rw [hu] at hu'
        injection hu' with hu'
        subst hu'
        rw [List.getElem?_set_ne (fun e => hup e.symm), List.getElem?_set_self (lt_of_some hz)])
      (fun u' hu1 hu2 => by
        rw [List.getElem?_set_ne (fun e => hu1 e.symm), List.getElem?_set_ne (fun e => hu2 (by rw [hu, e]))])
    rw [if_neg he] at hI
    exact ⟨rfl, ⟨_, _, hC, hI, by simp, by rw [List.length_set]; exact h4, h5⟩, hT⟩
theorem c_cut_no (i k : Int) (h : Chain w pb b1 b2 Q m) (hn : ∀ (l k' : Nat) (q : List Nat), i = l → k = k' → Q[l]? = some q → q[k']? = none) :
    Calls Try.prog 33 #[.pointer (some ⟨pb, 0, none⟩), .int .i64 i, .int .i64 k] w fun e w' => e = .returned (.tuple #[.int .i64 0, .bool false]) ∧ w' = w :=
  cut_of_no pb i k w (find_none i k h hn)
theorem c_at_no (i k : Int) (h : Chain w pb b1 b2 Q m) (hn : ∀ (l k' : Nat) (q : List Nat), i = l → k = k' → Q[l]? = some q → q[k']? = none) :
    Calls Try.prog 31 #[.pointer (some ⟨pb, 0, none⟩), .int .i64 i, .int .i64 k] w fun e w' => e = .returned (.tuple #[.int .i64 0, .bool false]) ∧ ∃ m, w' = w.drewN m :=
  at_of pb i k _ _ _ w ((find_none i k h hn).mono fun e w' ⟨h1, h2⟩ => ⟨h1, 0, h2⟩)
end
end Go.Proofs.Ytgcfiiidhihkaaa.C.CH
