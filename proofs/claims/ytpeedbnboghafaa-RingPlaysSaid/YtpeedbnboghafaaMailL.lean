/- The walks of mail's awake, MailNil and MailFull. -/
import Derived.Test.YtpeedbnboghafaaMail2
namespace Go.Proofs.Ytpeedbnboghafaa.C
open Go.RowKit
set_option linter.unusedVariables false

theorem mawake (w : World) : Calls Try.prog 21 #[] w fun e w' => e = .returned (.bool true) ∧ Below w.heap.size w w' := by
  have C1 : Hid (Calls Try.prog 22 #[.int .i64 1] w _) := b_new 1 w (by omega) (by omega)
  go_enter Try.func21, Try.ntmps21
  go_wp2_with fail
  refine C1.out.mono ?_
  rintro e w1 ⟨rfl, hM, hB⟩
  have C2 := Lib.hid (b_put_room 5 hM (by simp))
  clear C1 hM
  go_wp2_with fail
  refine C2.out.mono ?_
  rintro e w2 ⟨rfl, hM2, ht⟩
  have C3 := Lib.hid (b_put_full 6 hM2 (by simp))
  have C4 := Lib.hid (b_len hM2)
  clear C2 hM2
  go_wp2_with fail
  refine C3.out.mono ?_
  rintro e w3 ⟨rfl, rfl⟩
  go_wp2_with fail
  refine C4.out.mono ?_
  rintro e w4 ⟨rfl, rfl⟩
  go_wp2
  go_ret
  exact ⟨rfl, hB.trans (ht.below hB.size (by omega) (by omega))⟩

theorem walk_mailnil (x most : Int) (w : World) (hx : (Lit.int .i64 x).wf = true) (hm : (Lit.int .i64 most).wf = true) :
    Calls Try.prog 7 #[.int .i64 x, .int .i64 most] w fun e w' => e = .returned (.bool true) ∧ Below w.heap.size w w' := by
  obtain ⟨m0, m1⟩ := bounds_i64 hm
  have Hm := Lib.hid (show -9223372036854775808 ≤ most ∧ most ≤ 9223372036854775807 from ⟨m0, m1⟩)
  clear m0 m1 hx hm
  go_enter Try.func7, Try.ntmps7
  go_wp2_with fail
  refine (take_nil _).mono ?_
  rintro e w1 ⟨rfl, rfl⟩
  go_wp2_with fail
  refine (mawake _).mono ?_
  rintro e w2 ⟨rfl, hB⟩
  go_wp2_with fail
  refine (put_nil _ _).mono ?_
  rintro e w3 ⟨rfl, rfl⟩
  go_wp2_with fail
  refine (drain_nil _ _ Hm.out.1 Hm.out.2).mono ?_
  rintro e w3 ⟨rfl, rfl⟩
  go_wp2_with fail
  refine (len_nil _).mono ?_
  rintro e w3 ⟨rfl, rfl⟩
  go_wp2
  go_ret
  exact ⟨rfl, hB⟩
end Go.Proofs.Ytpeedbnboghafaa.C
