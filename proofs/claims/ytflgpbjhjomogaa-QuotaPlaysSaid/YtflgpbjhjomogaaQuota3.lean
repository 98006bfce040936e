/- The walk of the quota laws' awake; bounds of the state behind additions. -/
import Derived.Test.YtflgpbjhjomogaaQuota2
namespace Go.Proofs.Ytflgpbjhjomogaa.C
open Go.RowKit
set_option linter.unusedVariables false

theorem qok_small (r m s : Int) (l : List Int) (h : (decide (0 ≤ r) && decide (r ≤ 1073741824) && decide (0 ≤ m) && decide (m ≤ 1073741824) && decide (0 ≤ s) && decide (s ≤ 1073741824) && decide (l.length ≤ 129) && l.all fun x => decide (0 ≤ x) && decide (x ≤ 1073741824)) = true) : QOk r m s l := by
  simp only [Bool.and_eq_true, decide_eq_true_eq, List.all_eq_true] at h
  obtain ⟨⟨⟨⟨⟨⟨⟨h1, h2⟩, h3⟩, h4⟩, h5⟩, h6⟩, h7⟩, h8⟩ := h
  exact ⟨h1, h2, h3, h4, by omega, by omega, h7, fun x hx => ⟨(h8 x hx).1, by have := (h8 x hx).2; omega⟩⟩
theorem qawake (w : World) : Calls Try.prog 13 #[] w fun e w' => e = .returned (.bool true) ∧ Below w.heap.size w w' := by
  have C1 : Hid (Calls Try.prog 14 #[.int .i64 2, .int .i64 10, .int .i64 5] w _) := new_ok 2 10 5 w (by omega) (by omega) (by omega) (by omega) (by omega) (by omega)
  go_enter Try.func13, Try.ntmps13
  go_wp2_with fail
  refine C1.out.mono ?_
  rintro e w1 ⟨rfl, hq, hB⟩
  have C2 := Lib.hid (add_any (w.heap.size + 1) w.heap.size 10 5 0 0 15 (List.replicate 2 0) w1 hq (qok_small _ _ _ _ (by decide)) (by omega))
  clear C1
  have hq' := Lib.hid hq
  clear hq
  go_wp2_with fail
  refine C2.out.mono ?_
  rintro e w2 ⟨rfl, hq2, ht2⟩
  rw [show fitsB 10 5 0 (List.replicate 2 0) 0 15 = true by decide]
  rw [show addS 10 5 0 (List.replicate 2 0) 0 15 = 5 by decide, show addL 10 5 0 (List.replicate 2 0) 0 15 = [15, 0] by decide] at hq2
  have C3 := Lib.hid (add_any (w.heap.size + 1) w.heap.size 10 5 5 0 1 [15, 0] w2 hq2 (qok_small _ _ _ _ (by decide)) (by omega))
  clear C2 hq' hq2
  go_wp2_with fail
  refine C3.out.mono ?_
  rintro e w3 ⟨rfl, hq3, ht3⟩
  rw [show fitsB 10 5 5 [15, 0] 0 1 = false by decide]
  rw [show addS 10 5 5 [15, 0] 0 1 = 5 by decide, show addL 10 5 5 [15, 0] 0 1 = [15, 0] by decide] at hq3
  have C4 := Lib.hid (shared_any (w.heap.size + 1) w.heap.size 10 5 5 [15, 0] w3 hq3)
  have C5 := Lib.hid (fits_any (w.heap.size + 1) w.heap.size 10 5 5 1 10 [15, 0] w3 hq3 (qok_small _ _ _ _ (by decide)) (by omega))
  clear C3 hq3
  go_wp2_with fail
  refine C4.out.mono ?_
  rintro e w4 ⟨rfl, rfl⟩
  go_wp2_with fail
  refine C5.out.mono ?_
  rintro e w5 ⟨rfl, k, rfl⟩
  rw [show fitsB 10 5 5 [15, 0] 1 10 = true by decide]
  go_wp2
  go_ret
  refine ⟨rfl, hB.trans ((((ht2.trans ht3).drewN k).below hB.size (by omega) (by omega)))⟩
end Go.Proofs.Ytflgpbjhjomogaa.C
