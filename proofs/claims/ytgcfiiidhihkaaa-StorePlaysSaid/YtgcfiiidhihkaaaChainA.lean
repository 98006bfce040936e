/- The walks of awake (chains) and of ChainNone. -/
import Derived.Test.YtgcfiiidhihkaaaChainC
namespace Go.Proofs.Ytgcfiiidhihkaaa.C.CH
open Go.RowKit
set_option linter.unusedVariables false
theorem awake (w : World) : Calls Try.prog 26 #[] w fun e w' => e = .returned (.bool true) ∧ Below w.heap.size w w' := by
  have C1 : Hid (Calls Try.prog 27 #[.int .i64 1, .int .i64 9] w _) := c_new 1 9 w (by omega) (by omega) (by omega) (by omega)
  go_enter Try.func26, Try.ntmps26
  go_wp2_with fail
  refine C1.out.mono ?_
  rintro e w1 ⟨pb, b1, b2, rfl, g1, g2, g3, hS, hB⟩
  have C2 : Hid (Calls Try.prog 31 #[.pointer (some ⟨pb, 0, none⟩), .int .i64 0, .int .i64 0] w1 _) := c_at_no 0 0 hS (by
    intro l k' q hl hk hq
    rw [List.getElem?_replicate] at hq
    split at hq
    · injection hq with hq; subst hq; simp
    · cases hq)
  have H1 := Lib.hid hS
  clear C1 hS
  go_wp2_with fail
  refine C2.out.mono ?_
  rintro e w2 ⟨rfl, m, rfl⟩
  have C3 : Hid (Calls Try.prog 28 #[.pointer (some ⟨pb, 0, none⟩), .int .i64 0, .int .i64 5] (w1.drewN m) fun e w' => e = .returned (.bool true) ∧ Chain w' pb b1 b2 [[5]] 9 ∧ Two b1 b2 (w1.drewN m) w') := c_push (l := 0) (p := 5) (q := []) (H1.out.drewN m) rfl (by omega) (by
    intro l q hq
    rw [List.getElem?_replicate] at hq
    split at hq
    · injection hq with hq; subst hq; simp
    · cases hq)
  clear C2
  go_wp2_with fail
  refine C3.out.mono ?_
  rintro e w3 ⟨rfl, hS3, ht⟩
  have C4 : Hid (Calls Try.prog 29 #[.pointer (some ⟨pb, 0, none⟩), .int .i64 0] w3 fun e w' => e = .returned (.int .i64 1) ∧ w' = w3) := c_len (l := 0) (q := [5]) hS3 rfl
  have hB3 : Below w.heap.size w w3 := (below_drewN hB m).trans (ht.below (by have := hB.size; exact this) g2 g3)
  clear C3 hS3 ht H1
  go_wp2_with fail
  refine C4.out.mono ?_
  rintro e w4 ⟨rfl, rfl⟩
  go_wp2
  go_ret
  exact ⟨rfl, hB3⟩
end Go.Proofs.Ytgcfiiidhihkaaa.C.CH
namespace Go.Proofs.Ytgcfiiidhihkaaa.C
open Go.RowKit
set_option linter.unusedVariables false
theorem none_in (line place k : Int) (w : World) (h0 : 0 ≤ line) (h1 : line < 3) (h2 : 0 ≤ place) (h3 : place < 9) :
    Calls Try.prog 6 #[.int .i64 line, .int .i64 place, .int .i64 k] w fun e w' => e = .returned (.bool true) ∧ Below w.heap.size w w' := by
  go_enter Try.func6, Try.ntmps6
  go_wp2_with fail
  refine (CH.awake _).mono ?_
  rintro e w1 ⟨rfl, hB1⟩
  go_wp2_with fail
  refine (CH.awake _).mono ?_
  rintro e w2 ⟨rfl, hB2⟩
  go_wp2
  go_ret
  exact ⟨rfl, hB1.trans (hB2.mono hB1.size)⟩
set_option maxHeartbeats 2000000 in
theorem none_out (line place k : Int) (w : World) (hc : line < 0 ∨ (0 ≤ line ∧ 3 ≤ line) ∨ (0 ≤ line ∧ line < 3 ∧ place < 0) ∨ (0 ≤ line ∧ line < 3 ∧ 0 ≤ place ∧ 9 ≤ place)) :
    Calls Try.prog 6 #[.int .i64 line, .int .i64 place, .int .i64 k] w fun e w' => e = .returned (.bool true) ∧ Below w.heap.size w w' := by
  have HC := Lib.hid hc
  have Ha := Lib.hid (CH.awake w)
  have CL : Hid (∀ (w1 : World) (pb b1 b2 : Nat), CH.Chain w1 pb b1 b2 [[], [5], []] 9 → ∃ li : Int, Calls Try.prog 30 #[.pointer (some ⟨pb, 0, none⟩), .int .i64 place] w1 fun e w' => e = .returned (.tuple #[.int .i64 li, .bool (place == 5)]) ∧ w' = w1) := by
    intro w1 pb b1 b2 h
    by_cases h5 : place = 5
    · subst h5
      exact ⟨1, CH.c_line (l := 1) (p := 5) (q := [5]) h rfl (by simp)⟩
    · rw [beq_false_of_ne h5]
      by_cases hr : place < 0 ∨ (9 : Int) ≤ place
      · exact ⟨0, CH.c_line_no place h hr⟩
      · obtain ⟨p, rfl⟩ := Int.eq_ofNat_of_zero_le (show 0 ≤ place by omega)
        refine ⟨0, CH.c_line_free h (p := p) (by omega) ?_⟩
        intro l q hq hm
        match l, hq with
        | 0, hq => simp at hq; subst hq; simp at hm
        | 1, hq => simp at hq; subst hq; simp at hm; omega
        | 2, hq => simp at hq; subst hq; simp at hm
        | n + 3, hq => simp at hq
  have CN1 := Lib.hid (CH.at_nil line k)
  have CN2 := Lib.hid (CH.push_nil line place)
  have CN3 := Lib.hid (CH.len_nil line)
  rcases hc with h | ⟨h, h'⟩ | ⟨h, h', h''⟩ | ⟨h, h', h'', h'''⟩
  all_goals
    go_enter Try.func6, Try.ntmps6
    go_wp2_with fail
    refine Ha.out.mono ?_
    rintro e w1 ⟨rfl, hB1⟩
    have C1 : Hid (Calls Try.prog 27 #[.int .i64 3, .int .i64 9] w1 _) := CH.c_new 3 9 w1 (by omega) (by omega) (by omega) (by omega)
    go_wp2_with fail
    refine C1.out.mono ?_
    rintro e w2 ⟨pb, b1, b2, rfl, g1, g2, g3, hS, hB2⟩
    have C2 : Hid (Calls Try.prog 28 #[.pointer (some ⟨pb, 0, none⟩), .int .i64 1, .int .i64 5] w2 fun e w' => e = .returned (.bool true) ∧ CH.Chain w' pb b1 b2 [[], [5], []] 9 ∧ Two b1 b2 w2 w') := CH.c_push (l := 1) (p := 5) (q := []) hS rfl (by omega) (by
      intro l q hq
      rw [List.getElem?_replicate] at hq
      split at hq
      · injection hq with hq; subst hq; simp
      · cases hq)
    clear C1 hS
    go_wp2_with fail
    refine C2.out.mono ?_
    rintro e w3 ⟨rfl, hS3, ht⟩
    have hB3 : Below w.heap.size w w3 := (hB1.trans (hB2.mono hB1.size)).trans (ht.below (by have := hB1.size; have := hB2.size; omega) (by have := hB1.size; omega) (by have := hB1.size; omega))
    have C3 := Lib.hid (CH.c_push_no line place hS3 (by have := HC.out; show ¬ (0 ≤ line ∧ line < 3) ∨ place < 0 ∨ (9 : Int) ≤ place ∨ _; omega))
    have C4 : Hid (Calls Try.prog 29 #[.pointer (some ⟨pb, 0, none⟩), .int .i64 0] w3 fun e w' => e = .returned (.int .i64 0) ∧ w' = w3) := CH.c_len (l := 0) (q := []) hS3 rfl
    have C5 : Hid (Calls Try.prog 29 #[.pointer (some ⟨pb, 0, none⟩), .int .i64 1] w3 fun e w' => e = .returned (.int .i64 1) ∧ w' = w3) := CH.c_len (l := 1) (q := [5]) hS3 rfl
    have C6 : Hid (Calls Try.prog 29 #[.pointer (some ⟨pb, 0, none⟩), .int .i64 2] w3 fun e w' => e = .returned (.int .i64 0) ∧ w' = w3) := CH.c_len (l := 2) (q := []) hS3 rfl
    obtain ⟨li, c7⟩ := CL.out w3 pb b1 b2 hS3
    have C7 := Lib.hid c7
    clear C2 hS3 ht hB1 hB2 c7
    go_wp2_with fail
    refine C3.out.mono ?_
    rintro e w4 ⟨rfl, rfl⟩
    go_wp2_with fail
    refine C4.out.mono ?_
    rintro e w4 ⟨rfl, rfl⟩
    go_wp2_with fail
    refine C5.out.mono ?_
    rintro e w4 ⟨rfl, rfl⟩
    go_wp2_with fail
    refine C6.out.mono ?_
    rintro e w4 ⟨rfl, rfl⟩
    go_wp2_with fail
    refine C7.out.mono ?_
    rintro e w4 ⟨rfl, rfl⟩
    go_wp2_with fail
    refine (CN1.out _).mono ?_
    rintro e w4 ⟨rfl, rfl⟩
    go_wp2_with fail
    refine (CN2.out _).mono ?_
    rintro e w4 ⟨rfl, rfl⟩
    go_wp2_with fail
    refine (CN3.out _).mono ?_
    rintro e w4 ⟨rfl, rfl⟩
    go_wp2
    go_ret
    exact ⟨by simp, hB3⟩
theorem walk_chainnone (line place k : Int) (w : World) (h1 : (Lit.int .i64 line).wf = true) (h2 : (Lit.int .i64 place).wf = true) (h3 : (Lit.int .i64 k).wf = true) :
    Calls Try.prog 6 #[.int .i64 line, .int .i64 place, .int .i64 k] w fun e w' => e = .returned (.bool true) ∧ Below w.heap.size w w' := by
  by_cases h : 0 ≤ line ∧ line < 3 ∧ 0 ≤ place ∧ place < 9
  · exact none_in line place k w h.1 h.2.1 h.2.2.1 h.2.2.2
  · exact none_out line place k w (by omega)
end Go.Proofs.Ytgcfiiidhihkaaa.C
