/- The walk of MailFull. -/
import Derived.Test.YtpeedbnboghafaaMailL
namespace Go.Proofs.Ytpeedbnboghafaa.C
open Go.RowKit
set_option linter.unusedVariables false

/-- n numbers from a on. -/
def run (a n : Nat) : List Int := (List.range' a n).map Int.ofNat
theorem run_length (a n : Nat) : (run a n).length = n := by simp [run]
theorem run_snoc (a n : Nat) : run a n ++ [((a + n : Nat) : Int)] = run a (n + 1) := by
  unfold run
  rw [List.range'_concat]
  simp
theorem run_take (a n m : Nat) (h : m ≤ n) : (run a n).take m = run a m := by
  unfold run
  rw [← List.map_take]
  congr 1
  apply List.ext_getElem?
  intro j
  by_cases hj : j < m
  · rw [List.getElem?_take_of_lt hj, List.getElem?_range' (by omega), List.getElem?_range' hj]
  · rw [List.getElem?_eq_none (by simp; omega), List.getElem?_eq_none (by simp; omega)]
theorem run_drop (a n m : Nat) (h : m ≤ n) : (run a n).drop m = run (a + m) (n - m) := by
  unfold run
  rw [← List.map_drop, List.drop_range']
  simp
theorem run_at (a n k : Nat) (h : k < n) : (run a n)[k]? = some ((a + k : Nat) : Int) := by
  unfold run
  rw [List.getElem?_map, List.getElem?_range' h]
  simp
theorem run_all (a n m : Nat) (h : n ≤ m) : (run a n).take m = run a n ∧ (run a n).drop m = [] :=
  ⟨List.take_of_length_le (by rw [run_length]; exact h), List.drop_of_length_le (by rw [run_length]; exact h)⟩

set_option maxRecDepth 100000 in
set_option maxHeartbeats 2000000 in
theorem full_nat (r o : Nat) (w : World) (hr : r ≤ 255) (ho : o ≤ 255) : Calls Try.prog 5 #[.int .u8 r, .int .u8 o] w fun e w' => e = .returned (.bool true) ∧ Below w.heap.size w w' := by
  obtain ⟨n, hn⟩ : ∃ n, 1 + r % 64 = n := ⟨_, rfl⟩
  obtain ⟨q, hq⟩ : ∃ q, o % 70 = q := ⟨_, rfl⟩
  obtain ⟨m, hm⟩ : ∃ m, min q n = m := ⟨_, rfl⟩
  have n1 : 1 ≤ n := by omega
  have n2 : n ≤ 64 := by omega
  have q1 : q ≤ 69 := by omega
  have mn : m ≤ n := by omega
  have e1 : (1 : Int) + (r : Int) % 64 = (n : Int) := by omega
  have e2 : (o : Int) % 70 = (q : Int) := by omega
  have HM : Hid (min q n = m) := hm
  clear hn hq hm
  have Ha := Lib.hid (mawake w)
  go_enter Try.func5, Try.ntmps5
  go_wp2_with fail
  refine Ha.out.mono ?_
  rintro e w1 ⟨rfl, hB1⟩
  go_wp2_with fail
  refine (b_new n w1 n1 (by omega)).mono ?_
  rintro e w2 ⟨rfl, hbox, hB2⟩
  have hB := hB1.trans (hB2.mono hB1.size)
  have hpb : w.heap.size ≤ w1.heap.size := hB1.size
  generalize w1.heap.size = c at hbox hpb
  have HX := Lib.hid hbox
  clear hB1 hB2 hbox e1 Ha
  go_wp2_with fail
  go_loopw [30] (fun i wr => ∃ k : Nat, k ≤ n ∧ i = .int .i64 k ∧ MBox wr (c + 1) c n (run 0 k) ∧ Below w.heap.size w wr) (fun i _ => n - (intOf i).toNat)
  case atStart => exact ⟨0, by omega, rfl, HX.out, hB⟩
  case round =>
    obtain ⟨k, hk, rfl, hbox, hB'⟩ := hrel
    by_cases hlt : k < n
    · have C := Lib.hid (b_put_room (k : Int) hbox (by rw [run_length]; exact hlt))
      clear hbox
      go_wp2_with fail
      refine C.out.mono ?_
      rintro e w4 ⟨rfl, hb4, ht4⟩
      rw [show run 0 k ++ [(k : Int)] = run 0 (k + 1) by have := run_snoc 0 k; rwa [Nat.zero_add] at this] at hb4
      have H4 := Lib.hid hb4
      have hB4 := hB'.trans (ht4.below hB'.size (by omega) (by omega))
      clear hb4 C ht4
      go_wp2
      go_roundw
      case rel => exact ⟨k + 1, by omega, by go_num, H4.out, hB4⟩
      case measure => simp [intOf]; omega
    · obtain rfl : k = n := by omega
      have C1 := Lib.hid (b_put_full (-1) hbox (by rw [run_length]; omega))
      have C2 := Lib.hid (drain_nat q hbox (by rw [run_length]; omega) (by omega))
      have hE : (run 0 k).take q = run 0 m ∧ (run 0 k).drop q = run m (k - m) := by
        have := HM.out
        rcases Nat.le_total q k with h | h
        · obtain rfl : q = m := by omega
          rw [run_take 0 k q h, run_drop 0 k q h, Nat.zero_add]
          exact ⟨rfl, rfl⟩
        · obtain rfl : k = m := by omega
          rw [(run_all 0 k q h).1, (run_all 0 k q h).2, Nat.sub_self]
          exact ⟨rfl, rfl⟩
      rw [hE.1, hE.2, run_length] at C2
      clear hbox hlt hE hB
      have hqk : (q ≤ k ∧ q = m) ∨ (k < q ∧ k = m) := by have := HM.out; omega
      rcases hqk with ⟨hqk, rfl⟩ | ⟨hqk, rfl⟩
      · go_wp2_with fail
        refine C1.out.mono ?_
        rintro e w4 ⟨rfl, rfl⟩
        clear C1
        go_wp2_with fail
        refine C2.out.mono ?_
        rintro e w5 ⟨v, rfl, hown5, hbox5, ht5⟩
        obtain ⟨A5, c5, rfl⟩ : ∃ A cp, v = .slice A q cp := by
          rcases hown5.2 with ⟨rfl, h⟩ | ⟨g, cp, cur, rfl, _⟩
          · exact ⟨none, 0, by rw [h]⟩
          · exact ⟨_, _, rfl⟩
        have hB5 := hB'.trans (ht5.below hB'.size (by omega) (by omega))
        have HX5 := Lib.hid hbox5
        clear C2 hown5 ht5 hbox5 hB'
        go_wp2_with fail
        go_loopw [51] (fun i wr => ∃ j : Nat, j ≤ q ∧ i = .int .i64 j ∧ MBox wr (c + 1) c k (run q (k - q + j)) ∧ Below w.heap.size w wr) (fun i _ => q - (intOf i).toNat)
        case atStart => exact ⟨0, by omega, rfl, HX5.out, hB5⟩
        case round =>
          obtain ⟨j, hj, rfl, hbox, hB'⟩ := hrel
          by_cases hlt : j < q
          · have C := Lib.hid (b_put_room ((k : Int) + (j : Int)) hbox (by rw [run_length]; omega))
            rw [show run q (k - q + j) ++ [(k : Int) + (j : Int)] = run q (k - q + (j + 1)) by
              rw [show (k : Int) + (j : Int) = ((q + (k - q + j) : Nat) : Int) by omega, run_snoc, show k - q + j + 1 = k - q + (j + 1) by omega]] at C
            clear hbox
            go_wp2_with fail
            refine C.out.mono ?_
            rintro e w6 ⟨rfl, hb6, ht6⟩
            have H6 := Lib.hid hb6
            have hB6 := hB'.trans (ht6.below hB'.size (by omega) (by omega))
            clear hb6 C ht6
            go_wp2
            go_roundw
            case rel => exact ⟨j + 1, by omega, by go_num, H6.out, hB6⟩
            case measure => simp [intOf]; omega
          · rw [show k - q + j = k by omega] at hbox
            have D1 := Lib.hid (b_put_full (-1) hbox (by rw [run_length]; omega))
            have D2 : Hid (Calls Try.prog 24 #[.pointer (some ⟨c + 1, 0, none⟩), .int .i64 1000] wr _) := drain_nat 1000 hbox (by rw [run_length]; omega) (by omega)
            rw [(run_all q k 1000 (by omega)).1, (run_all q k 1000 (by omega)).2, run_length] at D2
            clear hbox
            go_wp2_with fail
            refine D1.out.mono ?_
            rintro e w6 ⟨rfl, rfl⟩
            clear D1
            go_wp2_with fail
            refine D2.out.mono ?_
            rintro e w7 ⟨v7, rfl, hown7, hbox7, ht7⟩
            obtain ⟨g, cp7, rfl, hg7, hg7'⟩ := hown7.form (by omega)
            have hB7 := hB'.trans (ht7.below hB'.size (by omega) (by omega))
            have hcell : ∀ i, i < k → w7.cell? ⟨g, i, none⟩ = some (.int .i64 ((q + i : Nat) : Int)) := fun i hi => by
              rw [hown7.cellAt i (by omega), ints_at, run_at q k i hi]
              rfl
            have D3 := Lib.hid (b_len hbox7)
            have HC := Lib.hid hcell
            clear D2 hown7 ht7 hbox7 hB' hcell
            go_wp2_with fail
            go_loop [67] (fun i => ∃ j : Nat, j ≤ k ∧ i = .int .i64 j) (fun i => k - (intOf i).toNat)
            case atStart => exact ⟨0, by omega, rfl⟩
            case round =>
              obtain ⟨j, hj, rfl⟩ := hrel
              by_cases hlt : j < k
              · have hc := HC.out j hlt
                have hne : (((q + j : Nat) : Int) != (q : Int) + (j : Int)) = false := by simp
                go_wp2
                go_round
                case rel => exact ⟨j + 1, by omega, by go_num⟩
                case measure => simp [intOf]; omega
              · go_wp2_with fail
                refine D3.out.mono ?_
                rintro e w8 ⟨rfl, rfl⟩
                go_wp2
                go_ret
                exact ⟨rfl, hB7⟩
      · go_wp2_with fail
        refine C1.out.mono ?_
        rintro e w4 ⟨rfl, rfl⟩
        clear C1
        go_wp2_with fail
        refine C2.out.mono ?_
        rintro e w5 ⟨v, rfl, hown5, hbox5, ht5⟩
        obtain ⟨A5, c5, rfl⟩ : ∃ A cp, v = .slice A k cp := by
          rcases hown5.2 with ⟨rfl, h⟩ | ⟨g, cp, cur, rfl, _⟩
          · exact ⟨none, 0, by rw [h]⟩
          · exact ⟨_, _, rfl⟩
        have hB5 := hB'.trans (ht5.below hB'.size (by omega) (by omega))
        have HX5 := Lib.hid hbox5
        clear C2 hown5 ht5 hbox5 hB'
        go_wp2_with fail
        go_loopw [51] (fun i wr => ∃ j : Nat, j ≤ k ∧ i = .int .i64 j ∧ MBox wr (c + 1) c k (run k (k - k + j)) ∧ Below w.heap.size w wr) (fun i _ => k - (intOf i).toNat)
        case atStart => exact ⟨0, by omega, rfl, HX5.out, hB5⟩
        case round =>
          obtain ⟨j, hj, rfl, hbox, hB'⟩ := hrel
          by_cases hlt : j < k
          · have C := Lib.hid (b_put_room ((k : Int) + (j : Int)) hbox (by rw [run_length]; omega))
            rw [show run k (k - k + j) ++ [(k : Int) + (j : Int)] = run k (k - k + (j + 1)) by
              rw [show (k : Int) + (j : Int) = ((k + (k - k + j) : Nat) : Int) by omega, run_snoc, show k - k + j + 1 = k - k + (j + 1) by omega]] at C
            clear hbox
            go_wp2_with fail
            refine C.out.mono ?_
            rintro e w6 ⟨rfl, hb6, ht6⟩
            have H6 := Lib.hid hb6
            have hB6 := hB'.trans (ht6.below hB'.size (by omega) (by omega))
            clear hb6 C ht6
            go_wp2
            go_roundw
            case rel => exact ⟨j + 1, by omega, by go_num, H6.out, hB6⟩
            case measure => simp [intOf]; omega
          · rw [show k - k + j = k by omega] at hbox
            have D1 := Lib.hid (b_put_full (-1) hbox (by rw [run_length]; omega))
            have D2 : Hid (Calls Try.prog 24 #[.pointer (some ⟨c + 1, 0, none⟩), .int .i64 1000] wr _) := drain_nat 1000 hbox (by rw [run_length]; omega) (by omega)
            rw [(run_all k k 1000 (by omega)).1, (run_all k k 1000 (by omega)).2, run_length] at D2
            clear hbox
            go_wp2_with fail
            refine D1.out.mono ?_
            rintro e w6 ⟨rfl, rfl⟩
            clear D1
            go_wp2_with fail
            refine D2.out.mono ?_
            rintro e w7 ⟨v7, rfl, hown7, hbox7, ht7⟩
            obtain ⟨g, cp7, rfl, hg7, hg7'⟩ := hown7.form (by omega)
            have hB7 := hB'.trans (ht7.below hB'.size (by omega) (by omega))
            have hcell : ∀ i, i < k → w7.cell? ⟨g, i, none⟩ = some (.int .i64 ((k + i : Nat) : Int)) := fun i hi => by
              rw [hown7.cellAt i (by omega), ints_at, run_at k k i hi]
              rfl
            have D3 := Lib.hid (b_len hbox7)
            have HC := Lib.hid hcell
            clear D2 hown7 ht7 hbox7 hB' hcell
            go_wp2_with fail
            go_loop [67] (fun i => ∃ j : Nat, j ≤ k ∧ i = .int .i64 j) (fun i => k - (intOf i).toNat)
            case atStart => exact ⟨0, by omega, rfl⟩
            case round =>
              obtain ⟨j, hj, rfl⟩ := hrel
              by_cases hlt : j < k
              · have hc := HC.out j hlt
                have hne : (((k + j : Nat) : Int) != (k : Int) + (j : Int)) = false := by simp
                go_wp2
                go_round
                case rel => exact ⟨j + 1, by omega, by go_num⟩
                case measure => simp [intOf]; omega
              · go_wp2_with fail
                refine D3.out.mono ?_
                rintro e w8 ⟨rfl, rfl⟩
                go_wp2
                go_ret
                exact ⟨rfl, hB7⟩

theorem walk_mailfull (r o : Int) (w : World) (hr : (Lit.int .u8 r).wf = true) (ho : (Lit.int .u8 o).wf = true) : Calls Try.prog 5 #[.int .u8 r, .int .u8 o] w fun e w' => e = .returned (.bool true) ∧ Below w.heap.size w w' := by
  obtain ⟨r0, r1⟩ := bounds_u8 hr
  obtain ⟨o0, o1⟩ := bounds_u8 ho
  obtain ⟨r, rfl⟩ := Int.eq_ofNat_of_zero_le r0
  obtain ⟨o, rfl⟩ := Int.eq_ofNat_of_zero_le o0
  exact full_nat r o w (by omega) (by omega)
end Go.Proofs.Ytpeedbnboghafaa.C
