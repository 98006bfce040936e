/- The walk of RingTurns. -/
import Derived.Test.YtpeedbnboghafaaRingX
namespace Go.Proofs.Ytpeedbnboghafaa.C
open Go.RowKit
set_option linter.unusedVariables false
/-- a, a + 1, .. : d numbers. -/
def span (a d : Nat) : List Int := (List.range' a d).map fun (i : Nat) => (i : Int)
theorem span_length (a d : Nat) : (span a d).length = d := by simp [span]
theorem span_push (a d : Nat) : span a d ++ [((a + d : Nat) : Int)] = span a (d + 1) := by
  unfold span
  rw [List.range'_concat]
  simp
theorem span_pop (a d : Nat) : span a (d + 1) = (a : Int) :: span (a + 1) d := by
  unfold span
  rw [List.range'_succ]
  rfl
theorem span_nil (a : Nat) : span a 0 = [] := rfl

set_option maxRecDepth 100000 in
set_option maxHeartbeats 2000000 in
theorem turns_nat (room many step : Nat) (w : World) (h1 : room ≤ 255) (h2 : many ≤ 65535) (h3 : step ≤ 255) :
    Calls Try.prog 4 #[.int .u8 room, .int .u16 many, .int .u8 step] w fun e w' => e = .returned (.bool true) ∧ Below w.heap.size w w' := by
  obtain ⟨n, hn⟩ : ∃ n, 1 + room % 100 = n := ⟨_, rfl⟩
  obtain ⟨s, hs⟩ : ∃ s, 1 + step % 9 = s := ⟨_, rfl⟩
  obtain ⟨M, hM⟩ : ∃ M, many % 500 = M := ⟨_, rfl⟩
  have n1 : 1 ≤ n := by omega
  have n2 : n ≤ 100 := by omega
  have s1 : 1 ≤ s := by omega
  have s2 : s ≤ 9 := by omega
  have m2 : M ≤ 499 := by omega
  have e1 : (1 : Int) + (room : Int) % 100 = (n : Int) := by omega
  have e2 : (1 : Int) + (step : Int) % 9 = (s : Int) := by omega
  have e3 : (many : Int) % 500 = (M : Int) := by omega
  clear hn hs hM
  have Ha := Lib.hid (RI.awake w)
  go_enter Try.func4, Try.ntmps4
  go_wp2_with fail
  refine Ha.out.mono ?_
  rintro e w1 ⟨rfl, hB1⟩
  go_wp2_with fail
  refine (RI.r_new n w1 n1 (by omega)).mono ?_
  rintro e w2 ⟨rfl, hS, hB2⟩
  have hB := hB1.trans (hB2.mono hB1.size)
  have hpb : w.heap.size ≤ w1.heap.size := hB1.size
  generalize w1.heap.size = b at hS hpb
  have HS := Lib.hid hS
  clear hB1 hB2 e1 e2 Ha hS
  go_wp2_with fail
  go_loopw [11, 12] (fun c v wr => ∃ wt d : Nat, c = .int .i64 ((wt + d : Nat) : Int) ∧ v = .int .i64 (wt : Nat) ∧ d < n ∧ wt + d ≤ 600 ∧ RI.Ring wr (b + 1) b n (span wt d) ∧ Below w.heap.size w wr)
    (fun c _ _ => M - (intOf c).toNat)
  case atStart => exact ⟨0, 0, rfl, rfl, by omega, by omega, HS.out, hB⟩
  case round =>
    obtain ⟨wt, d, rfl, rfl, hd, h600, hS, hBr⟩ := hrel
    by_cases hlt : wt + d < M
    · have HS2 := Lib.hid hS
      have hd5 : decide ((wt : Int) + (d : Int) < (M : Int)) = true := decide_eq_true (by omega)
      clear hS HS
      go_wp2_with fail
      obtain ⟨wo, rfl⟩ : ∃ wo : World, wo = wr := ⟨_, rfl⟩
      go_loopw [36, 11] (fun c v wq => ∃ j d' : Nat, c = .int .i64 (j : Nat) ∧ v = .int .i64 ((wt + d' : Nat) : Int) ∧ j ≤ s ∧ d ≤ d' ∧ d' ≤ n ∧ d' ≤ d + j ∧ (1 ≤ j → d + 1 ≤ d') ∧ RI.Ring wq (b + 1) b n (span wt d') ∧ Below w.heap.size w wq)
        (fun c _ _ => s - (intOf c).toNat)
      case atStart => exact ⟨0, d, rfl, rfl, by omega, by omega, by omega, by omega, fun h => absurd h (by omega), HS2.out, hBr⟩
      case round =>
        obtain ⟨j, d', rfl, rfl, hj, hd1, hd2, hd3, hd4, hS', hBq⟩ := hrel
        by_cases hlt' : j < s
        · by_cases hroom : d' < n
          · have C := Lib.hid (RI.r_push ((wt + d' : Nat) : Int) hS' (by rw [span_length]; exact hroom))
            rw [span_push] at C
            clear hS'
            go_wp2_with fail
            refine C.out.mono ?_
            rintro e w4 ⟨rfl, hS4, ht4⟩
            have hB4 := hBq.trans (ht4.below hBq.size (by omega) (by omega))
            have H4 := Lib.hid hS4
            clear C hS4 ht4
            go_wp2
            go_roundw
            case rel =>
              simp only [e3, Int.natCast_add]
              refine ⟨_, _, _, _, _, _, _, _, _, _, _, _, _, _, ⟨j + 1, d' + 1, ?_, ?_, by omega, by omega, by omega, by omega, fun _ => by omega, H4.out, hB4⟩, rfl⟩
              · go_num
              · first | done | (congr 1; done) | (congr 1; omega)
            case measure => simp [intOf]; omega
          · obtain rfl : d' = n := by omega
            have C := Lib.hid (RI.r_push_full ((wt + d' : Nat) : Int) hS' (by rw [span_length]))
            clear hS'
            go_wp2_with fail
            refine C.out.mono ?_
            rintro e w4 ⟨rfl, hS4, ht4⟩
            have hB4 := hBq.trans (ht4.below hBq.size (by omega) (by omega))
            have C2 := Lib.hid (RI.r_len hS4)
            rw [span_length] at C2
            have H4 := Lib.hid hS4
            clear C hS4 ht4
            go_wp2_with fail
            refine C2.out.mono ?_
            rintro e w5 ⟨rfl, rfl⟩
            go_wp2
            go_roundw
            case rel =>
              simp only [e3, Int.natCast_add]
              refine ⟨_, _, _, _, _, _, _, _, _, _, _, _, _, _, ⟨j + 1, d', ?_, ?_, by omega, by omega, by omega, by omega, fun _ => by omega, H4.out, hB4⟩, rfl⟩
              · go_num
              · rfl
            case measure => simp [intOf]; omega
        · have h5 := hd4 (by omega)
          obtain ⟨t, rfl⟩ : ∃ t, d' = t + 1 := ⟨d' - 1, by omega⟩
          rw [span_pop] at hS'
          have C := Lib.hid (RI.r_pop (wt : Nat) _ hS')
          clear hS' hd4
          go_wp2_with fail
          refine C.out.mono ?_
          rintro e w4 ⟨rfl, hS4, ht4⟩
          have hB4 := hBq.trans (ht4.below hBq.size (by omega) (by omega))
          have H4 := Lib.hid hS4
          clear C hS4 ht4
          go_wp2
          go_roundw
          case rel => exact ⟨wt + 1, t, by simp; omega, by go_num, by omega, by omega, H4.out, hB4⟩
          case measure => simp [intOf]; omega
    · have C2 := Lib.hid (RI.r_len hS)
      rw [span_length] at C2
      clear hS
      have hz : (wt : Int) + (d : Int) - (wt : Int) = (d : Int) := by omega
      go_wp2_with fail
      refine C2.out.mono ?_
      rintro e w5 ⟨rfl, rfl⟩
      go_wp2
      go_ret
      exact ⟨rfl, hBr⟩
theorem walk_ringturns (room many step : Int) (w : World) (h1 : (Lit.int .u8 room).wf = true) (h2 : (Lit.int .u16 many).wf = true) (h3 : (Lit.int .u8 step).wf = true) :
    Calls Try.prog 4 #[.int .u8 room, .int .u16 many, .int .u8 step] w fun e w' => e = .returned (.bool true) ∧ Below w.heap.size w w' := by
  obtain ⟨a0, a1⟩ := bounds_u8 h1
  obtain ⟨b0, b1⟩ := bounds_u16 h2
  obtain ⟨c0, c1⟩ := bounds_u8 h3
  obtain ⟨room, rfl⟩ := Int.eq_ofNat_of_zero_le a0
  obtain ⟨many, rfl⟩ := Int.eq_ofNat_of_zero_le b0
  obtain ⟨step, rfl⟩ := Int.eq_ofNat_of_zero_le c0
  exact turns_nat room many step w (by omega) (by omega) (by omega)
end Go.Proofs.Ytpeedbnboghafaa.C
