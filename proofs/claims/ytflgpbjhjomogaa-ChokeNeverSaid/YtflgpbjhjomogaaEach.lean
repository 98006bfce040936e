/- ChokeEach's walk: draws one behind the other pick each of n places once. No conditions beyond the kinds' ranges. -/
import Derived.Test.YtflgpbjhjomogaaProg
import Derived.Test.YtflgpbjhjomogaaBase
import Derived.KernelRfl
namespace Go.Proofs.Ytflgpbjhjomogaa.C
open Go.RowKit
set_option linter.unusedVariables false

theorem pick_no (d n : Int) (w : World) (h : n < 1) : Calls Try.prog 11 #[.int .u64 d, .int .i64 n] w fun e w' => e = .returned (.tuple #[.int .i64 0, .bool false]) ∧ w = w' := by
  go_enter Try.func11, Try.ntmps11
  go_wp2
  go_ret2
  exact ⟨rfl, rfl⟩
theorem pick_yes (d n : Int) (w : World) (h : 1 ≤ n) (h2 : n ≤ 9223372036854775807) (hd : 0 ≤ d) : Calls Try.prog 11 #[.int .u64 d, .int .i64 n] w fun e w' => e = .returned (.tuple #[.int .i64 (d % n), .bool true]) ∧ w = w' := by
  have hm := Int.emod_lt_of_pos d (show 0 < n by omega)
  have hm0 := Int.emod_nonneg d (show n ≠ 0 by omega)
  go_enter Try.func11, Try.ntmps11
  go_wp2
  go_ret2
  exact ⟨rfl, rfl⟩
theorem pick_nat (d n : Nat) (w : World) (h : 1 ≤ n) (h2 : n ≤ 9223372036854775807) : Calls Try.prog 11 #[.int .u64 d, .int .i64 n] w fun e w' => e = .returned (.tuple #[.int .i64 (d % n : Nat), .bool true]) ∧ w = w' := by
  have := pick_yes d n w (by omega) (by omega) (by omega)
  rwa [← Int.natCast_emod] at this
theorem awake_any (w : World) : Calls Try.prog 10 #[] w fun e w' => e = .returned (.bool true) ∧ w = w' := by
  go_enter Try.func10, Try.ntmps10
  go_wp2
  go_ret
  exact ⟨rfl, rfl⟩
def zrow : Array Value := Array.replicate 256 (.int .i64 0)
theorem zrun (w : World) : Sem.run Try.prog (zeroValue 24) w = .ok (.agg zrow) w := by kernel_rfl
theorem zat (j : Nat) (h : j < 256) : zrow[j]? = some (.int .i64 0) := by
  unfold zrow
  rw [Array.getElem?_eq_getElem (by simpa using h)]
  simp
/-- How often place j has been picked after k rounds. -/
def cnt (e n k j : Nat) : Int := if j < n then (if (j + (n - e % n)) % n < k then 1 else 0) else 0
theorem cnt_zero (e n j : Nat) : cnt e n 0 j = 0 := by unfold cnt; split <;> simp
theorem cnt_full (e n j : Nat) (h : j < n) : cnt e n n j = 1 := by
  unfold cnt; rw [if_pos h, if_pos (Nat.mod_lt _ (by omega))]
theorem pick_iff (e n k j : Nat) (hk : k < n) (hj : j < n) : (j + (n - e % n)) % n = k ↔ (e + k) % n = j := by
  have he : e % n < n := Nat.mod_lt _ (by omega)
  constructor
  · intro h
    have h1 : (e + k) % n = (e % n + k) % n := by simp [Nat.add_mod]
    rw [h1]
    rcases Nat.lt_or_ge (j + (n - e % n)) n with a | a
    · rw [Nat.mod_eq_of_lt a] at h; subst h
      rw [show e % n + (j + (n - e % n)) = j + n by omega, Nat.add_mod_right, Nat.mod_eq_of_lt hj]
    · rw [Nat.mod_eq_sub_mod a, Nat.mod_eq_of_lt (by omega)] at h; subst h
      rw [show e % n + (j + (n - e % n) - n) = j by omega, Nat.mod_eq_of_lt hj]
  · intro h
    have h1 : (e + k) % n = (e % n + k) % n := by simp [Nat.add_mod]
    rw [h1] at h
    rcases Nat.lt_or_ge (e % n + k) n with a | a
    · rw [Nat.mod_eq_of_lt a] at h; subst h
      rw [show e % n + k + (n - e % n) = k + n by omega, Nat.add_mod_right, Nat.mod_eq_of_lt hk]
    · rw [Nat.mod_eq_sub_mod a, Nat.mod_eq_of_lt (by omega)] at h; subst h
      rw [show e % n + k - n + (n - e % n) = k by omega, Nat.mod_eq_of_lt hk]
theorem cnt_hit (e n k : Nat) (hk : k < n) : cnt e n k ((e + k) % n) = 0 := by
  have hj : (e + k) % n < n := Nat.mod_lt _ (by omega)
  unfold cnt
  rw [if_pos hj, (pick_iff e n k _ hk hj).2 rfl, if_neg (by omega)]
theorem cnt_succ (e n k j : Nat) (hk : k < n) : cnt e n (k + 1) j = if j = (e + k) % n then 1 else cnt e n k j := by
  by_cases hj : j < n
  · have hp := pick_iff e n k j hk hj
    unfold cnt
    simp only [hj, if_true]
    by_cases h : j = (e + k) % n
    · rw [if_pos h, if_pos (by have := hp.2 h.symm; omega)]
    · rw [if_neg h]
      have : (j + (n - e % n)) % n ≠ k := fun h' => h (hp.1 h').symm
      by_cases h2 : (j + (n - e % n)) % n < k
      · rw [if_pos h2, if_pos (by omega)]
      · rw [if_neg h2, if_neg (by omega)]
  · have : (e + k) % n < n := Nat.mod_lt _ (by omega)
    unfold cnt
    simp only [hj, if_false]
    rw [if_neg (by omega)]

theorem each (d n : Nat) (w : World) (hd : d < 18446744073709551616) (hn : 1 ≤ n) (hn2 : n ≤ 255) : Calls Try.prog 3 #[.int .u64 d, .int .u8 n] w fun e w' => e = .returned (.bool true) ∧ Below w.heap.size w w' := by
  have hb : ((n : Int) == 0) = false := by simp; omega
  have hz := zrun
  go_enter Try.func3, Try.ntmps3
  go_wp2_with (go_at_call 10; refine (awake_any _).mono ?_; rintro e w' ⟨rfl, rfl⟩)
  go_loopw [19] (fun c wr => ∃ k : Nat, k ≤ n ∧ c = .int .i64 k ∧ (∀ j, j < 256 → wr.cell? ⟨w.heap.size, j, none⟩ = some (.int .i64 (cnt (d % 1152921504606846976) n k j))) ∧
     (∀ j, wr.frozen? ⟨w.heap.size, j, none⟩ = false) ∧ Below w.heap.size w wr)
    (fun c _ => n - (intOf c).toNat)
  case atStart => exact ⟨0, by omega, rfl, fun j hj => by simp [zat j hj, cnt_zero], by simp, (Below.refl _ _).alloc (Nat.le_refl _) _⟩
  case round =>
    obtain ⟨k, hk, rfl, hc, hf, hB⟩ := hrel
    have hm : ((d : Int) % 1152921504606846976) = ((d % 1152921504606846976 : Nat) : Int) := by omega
    have he : d % 1152921504606846976 < 1152921504606846976 := Nat.mod_lt _ (by decide)
    generalize d % 1152921504606846976 = e at hm he hc
    have Hm := Lib.hid hm
    clear hm hz
    by_cases hlt : k < n
    · go_wp2_with fail
      rw [Hm.out, show (e : Int) + (k : Int) = ((e + k : Nat) : Int) by omega]
      refine (pick_nat (e + k) n _ hn (by omega)).mono ?_
      rintro e1 w1 ⟨rfl, rfl⟩
      have hx : (e + k) % n < n := Nat.mod_lt _ (by omega)
      have h0 := cnt_hit e n k hlt
      have hs := cnt_succ e n k
      generalize (e + k) % n = x at hx h0 hs
      have hcx : wr.cell? ⟨w.heap.size, x, none⟩ = some (.int .i64 0) := by rw [hc x (by omega), h0]
      have hfx := hf x
      have Hc := Lib.hid hc
      have Hs := Lib.hid hs
      clear hc hs h0
      go_wp2
      go_roundw
      case rel => 
        refine ⟨k + 1, by omega, by go_num, ?_, ?_, ?_⟩
        · intro j hj
          rw [Hs.out j hlt]
          by_cases hjx : j = x
          · subst hjx
            rw [if_pos rfl]
            exact World.cell?_setCell_same _ _ _ hcx
          · rw [if_neg hjx, World.cell?_setCell_other _ _ _ _ (by simp)]
            exact Hc.out j hj
        · intro j; rw [World.frozen?_setCell]; exact hf j
        · exact hB.setCell (by simp) _
      case measure => simp [intOf]; omega
    · obtain rfl : k = n := by omega
      go_wp2
      go_loop [53] (fun c => ∃ m : Nat, m ≤ k ∧ c = .int .i64 m) (fun c => k - (intOf c).toNat)
      case atStart => exact ⟨0, by omega, rfl⟩
      case round =>
        obtain ⟨m, hm', rfl⟩ := hrel
        by_cases hlt' : m < k
        · have hc1 : wr.cell? ⟨w.heap.size, m, none⟩ = some (.int .i64 1) := by rw [hc m (by omega), cnt_full _ _ _ hlt']
          clear hc
          go_wp2
          go_round
          case rel => exact ⟨m + 1, by omega, by go_num⟩
          case measure => simp [intOf]; omega
        · go_wp2
          go_ret
          exact ⟨rfl, hB⟩

theorem walk_each (d n : Int) (w : World) (hd : (Lit.int .u64 d).wf = true) (hn : (Lit.int .u8 n).wf = true) :
    Calls Try.prog 3 #[.int .u64 d, .int .u8 n] w fun e w' => e = .returned (.bool true) ∧ Below w.heap.size w w' := by
  obtain ⟨d0, d1⟩ := bounds_u64 hd
  obtain ⟨n0, n1⟩ := bounds_u8 hn
  obtain ⟨d, rfl⟩ := Int.eq_ofNat_of_zero_le d0
  obtain ⟨n, rfl⟩ := Int.eq_ofNat_of_zero_le n0
  by_cases h : n = 0
  · subst h
    clear d1 hd
    go_enter Try.func3, Try.ntmps3
    go_wp2_with (go_at_call 10; refine (awake_any _).mono ?_; rintro e w' ⟨rfl, rfl⟩)
    go_ret
    exact ⟨rfl, Below.refl _ _⟩
  · exact each d n w (by omega) (by omega) (by omega)
end Go.Proofs.Ytflgpbjhjomogaa.C
