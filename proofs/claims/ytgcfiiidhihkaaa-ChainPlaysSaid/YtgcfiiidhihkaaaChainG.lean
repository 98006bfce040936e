/- The reference's Push at whatever numbers; told. -/
import Derived.Test.YtgcfiiidhihkaaaChainV
namespace Go.Proofs.Ytgcfiiidhihkaaa.C
open Go.RowKit
set_option linter.unusedVariables false
theorem rc_push (base g cap m : Nat) (l p : Int) (S : List Value) (Q : List (List Nat)) (w : World) (h : CR w base g cap S Q) (hQ : Q.length ≤ 129) (hm : m ≤ 4096) (hq4 : ∀ q ∈ Q, q.length ≤ 4096) :
    Calls Try.prog 35 #[cv g cap Q.length m, .int .i64 l, .int .i64 p] w fun e w' => ∃ g' cap' S', e = .returned (.tuple #[cv g' cap' Q.length m, .bool (pushOk Q m l p)]) ∧ CR w' base g' cap' S' (pushQ Q m l p) ∧ Below w.heap.size w w' := by
  cases ho : pushOk Q m l p with
  | true =>
    have hq' : pushQ Q m l p = Q.set l.toNat (Q.getD l.toNat [] ++ [p.toNat]) := by unfold pushQ; rw [if_pos ho]
    rw [hq']
    unfold pushOk at ho
    rw [decide_eq_true_eq] at ho
    obtain ⟨h1, h2, h3, h4, h5⟩ := ho
    obtain ⟨l, rfl⟩ := Int.eq_ofNat_of_zero_le h1
    obtain ⟨p, rfl⟩ := Int.eq_ofNat_of_zero_le h3
    obtain ⟨q, hq⟩ : ∃ q, Q[l]? = some q := ⟨_, List.getElem?_eq_getElem (by omega)⟩
    have := rc_push_yes base g cap m l p S Q q w h hQ hm hq4 hq (by omega) h5
    rw [Int.toNat_natCast, Int.toNat_natCast, List.getD_eq_getElem?_getD, hq]
    exact this
  | false =>
    have hq' : pushQ Q m l p = Q := by unfold pushQ; rw [ho, if_neg (by simp)]
    rw [hq']
    unfold pushOk at ho
    rw [decide_eq_false_iff_not] at ho
    have := lineQ_ge Q p
    exact rc_push_no base g cap m l p S Q w h hQ hm hq4 (by omega)
theorem told_yes (want : Int) (w : World) : Calls Try.prog 37 #[.int .i64 (max want 0), .bool (decide (0 ≤ want)), .int .i64 want] w fun e w' => e = .returned (.bool true) ∧ w' = w := by
  by_cases h : 0 ≤ want
  · have d : decide (0 ≤ want) = true := decide_eq_true h
    have e : max want 0 = want := by omega
    have e2 : (if want < 0 then (0 : Int) else want) = want := by rw [if_neg (by omega)]
    rw [d, e]
    go_enter Try.func37, Try.ntmps37
    go_wp2
    all_goals
      go_ret
      first
        | exact ⟨rfl, rfl⟩
        | (refine ⟨?_, rfl⟩; simp; try omega)
  · have d : decide (0 ≤ want) = false := decide_eq_false h
    have e : max want 0 = 0 := by omega
    rw [d, e]
    go_enter Try.func37, Try.ntmps37
    go_wp2
    all_goals
      go_ret
      first
        | exact ⟨rfl, rfl⟩
        | (refine ⟨?_, rfl⟩; simp; try omega)
end Go.Proofs.Ytgcfiiidhihkaaa.C
