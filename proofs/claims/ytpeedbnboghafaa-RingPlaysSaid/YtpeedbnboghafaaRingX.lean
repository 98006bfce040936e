/- The walks of Len, Room and of awake (rings of numbers). -/
import Derived.Test.YtpeedbnboghafaaRingI
namespace Go.Proofs.Ytpeedbnboghafaa.C.RI
open Go.RowKit
set_option linter.unusedVariables false
theorem len_nil (w : World) : Calls Try.prog 19 #[.pointer none] w fun e w' => e = .returned (.int .i64 0) ∧ w' = w := by
  go_enter Try.func19, Try.ntmps19
  go_wp2
  go_ret
  exact ⟨rfl, rfl⟩
theorem room_nil (w : World) : Calls Try.prog 27 #[.pointer none] w fun e w' => e = .returned (.int .i64 0) ∧ w' = w := by
  go_enter Try.func27, Try.ntmps27
  go_wp2
  go_ret
  exact ⟨rfl, rfl⟩
theorem len_any (pb b first n : Nat) (l : List Int) (w : World) (h : RAt w pb b first n l) :
    Calls Try.prog 19 #[.pointer (some ⟨pb, 0, none⟩)] w fun e w' => e = .returned (.int .i64 (n : Nat)) ∧ w' = w := by
  have c2 := h.c2
  clear h
  go_enter Try.func19, Try.ntmps19
  go_wp2
  go_ret
  exact ⟨rfl, rfl⟩
theorem room_any (pb b first n : Nat) (l : List Int) (w : World) (h : RAt w pb b first n l) :
    Calls Try.prog 27 #[.pointer (some ⟨pb, 0, none⟩)] w fun e w' => e = .returned (.int .i64 (l.length : Nat)) ∧ w' = w := by
  have c0 := h.c0
  clear h
  go_enter Try.func27, Try.ntmps27
  go_wp2
  go_ret
  exact ⟨rfl, rfl⟩
section
variable {w : World} {pb b room : Nat} {q : List Int}
theorem r_len (h : Ring w pb b room q) : Calls Try.prog 19 #[.pointer (some ⟨pb, 0, none⟩)] w fun e w' => e = .returned (.int .i64 (q.length : Nat)) ∧ w' = w := by
  obtain ⟨first, l, h1, h2, rfl, h4⟩ := h
  exact len_any pb b first _ l w h1
theorem r_room (h : Ring w pb b room q) : Calls Try.prog 27 #[.pointer (some ⟨pb, 0, none⟩)] w fun e w' => e = .returned (.int .i64 (room : Nat)) ∧ w' = w := by
  obtain ⟨first, l, h1, h2, rfl, h4⟩ := h
  exact room_any pb b first _ l w h1
end
theorem awake (w : World) : Calls Try.prog 10 #[] w fun e w' => e = .returned (.bool true) ∧ Below w.heap.size w w' := by
  have C1 : Hid (Calls Try.prog 17 #[.int .i64 2] w _) := r_new 2 w (by omega) (by omega)
  go_enter Try.func10, Try.ntmps10
  go_wp2_with fail
  refine C1.out.mono ?_
  rintro e w1 ⟨rfl, hS, hB⟩
  have C2 : Hid (Calls Try.prog 18 #[.pointer (some ⟨w.heap.size + 1, 0, none⟩), .int .i64 5] w1 _) := r_push 5 hS (by simp)
  clear C1 hS
  go_wp2_with fail
  refine C2.out.mono ?_
  rintro e w2 ⟨rfl, hS2, ht⟩
  have C3 : Hid (Calls Try.prog 19 #[.pointer (some ⟨w.heap.size + 1, 0, none⟩)] w2 fun e w' => e = .returned (.int .i64 1) ∧ w' = w2) := r_len hS2
  have C4 : Hid (Calls Try.prog 27 #[.pointer (some ⟨w.heap.size + 1, 0, none⟩)] w2 fun e w' => e = .returned (.int .i64 2) ∧ w' = w2) := r_room hS2
  clear C2 hS2
  go_wp2_with fail
  refine C3.out.mono ?_
  rintro e w3 ⟨rfl, rfl⟩
  go_wp2_with fail
  refine C4.out.mono ?_
  rintro e w3 ⟨rfl, rfl⟩
  go_wp2
  go_ret
  exact ⟨rfl, hB.trans (ht.below hB.size (by omega) (by omega))⟩
end Go.Proofs.Ytpeedbnboghafaa.C.RI
