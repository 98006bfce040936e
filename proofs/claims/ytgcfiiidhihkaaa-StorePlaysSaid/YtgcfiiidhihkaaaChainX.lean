/- The walks of chain.Chains: find, At, Push, Cut, New. -/
import Derived.Test.YtgcfiiidhihkaaaChainW
namespace Go.Proofs.Ytgcfiiidhihkaaa.C.CH
open Go.RowKit
set_option linter.unusedVariables false
theorem find_no (pb b1 b2 : Nat) (i k : Int) (ln : List Ln) (lk : List Lk) (w : World) (h : CAt w pb b1 b2 ln lk) (hi : ¬ (0 ≤ i ∧ i < ln.length)) :
    Calls Try.prog 59 #[.pointer (some ⟨pb, 0, none⟩), .int .i64 i, .int .i64 k] w fun e w' => e = .returned (.tuple #[.int .i64 0, .int .i64 (-1), .bool false]) ∧ w' = w := by
  have C := Lib.hid (has_any pb b1 b2 i ln lk w h)
  rw [decide_eq_false hi] at C
  clear h hi
  go_enter Try.func59, Try.ntmps59
  go_wp2_with fail
  refine C.out.mono ?_
  rintro e w1 ⟨rfl, rfl⟩
  go_wp2
  go_ret3
  exact ⟨rfl, rfl⟩
theorem find_out (pb b1 b2 l : Nat) (k : Int) (x : Ln) (ln : List Ln) (lk : List Lk) (w : World) (h : CAt w pb b1 b2 ln lk) (hx : ln[l]? = some x) (hl : ln.length ≤ 65536) (hk : k < 0 ∨ x.n ≤ k) :
    Calls Try.prog 59 #[.pointer (some ⟨pb, 0, none⟩), .int .i64 (l : Nat), .int .i64 k] w fun e w' => e = .returned (.tuple #[.int .i64 0, .int .i64 (-1), .bool false]) ∧ w' = w := by
  have hlt := lt_of_some hx
  have C := Lib.hid (has_any pb b1 b2 (l : Nat) ln lk w h)
  rw [decide_eq_true (show (0 : Int) ≤ (l : Nat) ∧ ((l : Nat) : Int) < (ln.length : Nat) by omega)] at C
  have c0 := h.c0
  obtain ⟨q0, q1, q2⟩ := h.ln_ hx
  generalize x.n = xn at *
  clear h hx
  by_cases h0 : k < 0
  · go_enter Try.func59, Try.ntmps59
    go_wp2_with fail
    refine C.out.mono ?_
    rintro e w1 ⟨rfl, rfl⟩
    go_wp2
    go_ret3
    exact ⟨rfl, rfl⟩
  · have h1 : xn ≤ k := by omega
    have h0' : 0 ≤ k := by omega
    go_enter Try.func59, Try.ntmps59
    go_wp2_with fail
    refine C.out.mono ?_
    rintro e w1 ⟨rfl, rfl⟩
    go_wp2
    go_ret3
    exact ⟨rfl, rfl⟩
/-- The one ahead of the k-th. -/
def aheadOr (q : List Nat) (k : Nat) : Int := if k = 0 then -1 else atOr q (k - 1)
set_option maxRecDepth 100000 in
set_option maxHeartbeats 1000000 in
theorem find_yes (pb b1 b2 l k p : Nat) (q : List Nat) (Q : List (List Nat)) (ln : List Ln) (lk : List Lk) (w : World) (h : CAt w pb b1 b2 ln lk) (hI : CInv ln lk Q) (hq : Q[l]? = some q) (hp : q[k]? = some p) (hl : ln.length ≤ 65536) (hl2 : lk.length ≤ 65536) (hq2 : q.length ≤ 65536) :
    Calls Try.prog 59 #[.pointer (some ⟨pb, 0, none⟩), .int .i64 (l : Nat), .int .i64 (k : Nat)] w fun e w' => e = .returned (.tuple #[.int .i64 (p : Nat), .int .i64 (aheadOr q k), .bool true]) ∧ ∃ m, w' = w.drewN m := by
  have hx := hI.line l q hq
  have hlt := lt_of_some hx
  have hkq := lt_of_some hp
  have C := Lib.hid (has_any pb b1 b2 (l : Nat) ln lk w h)
  rw [decide_eq_true (show (0 : Int) ≤ (l : Nat) ∧ ((l : Nat) : Int) < (ln.length : Nat) by omega)] at C
  have c0 := h.c0
  obtain ⟨q0, q1, q2⟩ := h.ln_ hx
  have q0 : w.cell? ⟨b1, l * 3, none⟩ = some (.int .i64 (atOr q 0)) := q0
  have q2 : w.cell? ⟨b1, l * 3 + 2, none⟩ = some (.int .i64 (q.length : Nat)) := q2
  have H := Lib.hid h
  have HI := Lib.hid hI
  have HQ := Lib.hid hq
  have HP := Lib.hid hp
  generalize hn : q.length = n at *
  have HNQ := Lib.hid hn
  have dk : decide (n ≤ k) = false := by simp; omega
  have dk3 : decide ((k : Int) < 0) = false := by simp
  clear h hI hq hx hp q1 hn
  go_enter Try.func59, Try.ntmps59
  go_wp2_with fail
  refine C.out.mono ?_
  rintro e w1 ⟨rfl, rfl⟩
  clear C
  go_wp2_with fail
  go_quiet (fail)
  go_wp2_with fail
  go_loopw [40, 9, 10] (fun c u v wr => ∃ t : Nat, t ≤ k ∧ c = .int .i64 (t : Nat) ∧ u = .int .i64 (aheadOr q t) ∧ v = .int .i64 (atOr q t) ∧ ∃ m, wr = w1.drewN m)
    (fun c _ _ _ => k - (intOf c).toNat)
  case atStart => exact ⟨0, by omega, rfl, rfl, rfl, _, rfl⟩
  case round =>
    obtain ⟨t, ht, rfl, rfl, rfl, m, rfl⟩ := hrel
    by_cases hlt' : t < k
    · obtain ⟨p', hp', hat⟩ := atOr_lt (q := q) (k := t) (by have := HNQ.out; omega)
      have hs := HI.out.seg l q t p' HQ.out hp'
      have hlp := lt_of_some hs
      obtain ⟨s0, s1⟩ := H.out.lk_ hs
      have s1 : w1.cell? ⟨b2, p' * 2 + 1, none⟩ = some (.int .i64 (atOr q (t + 1))) := s1
      have cc1 := H.out.c1
      have ha : aheadOr q (t + 1) = (p' : Int) := by simp [aheadOr, hat]
      have HA := Lib.hid ha
      rw [hat]
      generalize hnx : atOr q (t + 1) = nx at *
      have HNX := Lib.hid hnx
      clear hnx
      clear hs hp' ha s0 hat
      go_wp2_with fail
      go_quiet (fail)
      go_wp2
      go_roundw
      case rel => exact ⟨t + 1, by omega, by go_num, by rw [HA.out], by rw [HNX.out], _, rfl⟩
      case measure => simp [intOf]; omega
    · obtain rfl : t = k := by omega
      rw [atOr_some HP.out]
      go_wp2
      go_ret3
      exact ⟨rfl, _, rfl⟩
end Go.Proofs.Ytgcfiiidhihkaaa.C.CH
