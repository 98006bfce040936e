/- The walks of ChokePicks and ChokeNever. -/
import Derived.Test.YtflgpbjhjomogaaMatch
namespace Go.Proofs.Ytflgpbjhjomogaa.C
open Go.RowKit
set_option linter.unusedVariables false

theorem emod_u64 (d n : Int) (h0 : 0 ≤ d) (h1 : 1 ≤ n) : 0 ≤ d % n ∧ d % n < n := ⟨Int.emod_nonneg _ (by omega), Int.emod_lt_of_pos _ (by omega)⟩
theorem pick_r (d n r : Int) (w : World) (h : 1 ≤ n) (h2 : n ≤ 9223372036854775807) (hd : 0 ≤ d) (hr : Hid (d % n = r)) : Calls Try.prog 11 #[.int .u64 d, .int .i64 n] w fun e w' => e = .returned (.tuple #[.int .i64 r, .bool true]) ∧ w = w' := by
  have := pick_yes d n w h h2 hd
  rwa [hr.out] at this

theorem picks_many (d n : Int) (a : Option Addr) (len cap : Nat) (fs : Array Value) (w : World) (h : 100 < len) (hm : len ≤ 9223372036854775807) :
    Calls Try.prog 4 #[.int .u64 d, .int .i64 n, .slice a len cap, .agg fs] w fun e w' => e = .returned (.bool true) ∧ Below w.heap.size w w' := by
  go_enter Try.func4, Try.ntmps4
  go_wp2_with (go_at_call 10; refine (awake_any _).mono ?_; rintro e w' ⟨rfl, rfl⟩)
  go_ret
  exact ⟨rfl, (Below.refl _ _).alloc (Nat.le_refl _) _⟩

set_option maxHeartbeats 1000000 in
theorem picks_none (d : Nat) (n : Int) (a : Option Addr) (cap : Nat) (fs : Array Value) (w : World) (hn0 : -9223372036854775808 ≤ n) (hn : n ≤ 9223372036854775807) (hfs : Flat Try.prog 32 fs) :
    Calls Try.prog 4 #[.int .u64 d, .int .i64 n, .slice a 0 cap, .agg fs] w fun e w' => e = .returned (.bool true) ∧ Below w.heap.size w w' := by
  by_cases h1 : n < 1
  · go_enter Try.func4, Try.ntmps4
    go_wp2_with (first
      | (go_at_call 10; refine (awake_any _).mono ?_; rintro e w' ⟨rfl, rfl⟩)
      | (go_at_call 11; refine (pick_no _ _ _ h1).mono ?_; rintro e w' ⟨rfl, rfl⟩)
      | ((with_reducible refine wpList_load_laid 66 7 32 ⟨w.heap.size, 0, none⟩ fs ?_ ?_ ?_ ?_ ?_); rfl; kernel_rfl; (rw [hfs.size]; kernel_rfl); exact laid_new _ _ _)
      | (go_at_call 12; refine (match_none _ _ _ _ _).mono ?_; rintro e w1 ⟨rfl, hB⟩))
    go_ret
    exact ⟨rfl, ((Below.refl _ _).alloc (Nat.le_refl _) _).trans (hB.mono (by simp))⟩
  ·
    obtain ⟨hr0, hr1⟩ := emod_u64 d n (by omega) (by omega)
    have Hr : Hid (∃ r, (d : Int) % n = r ∧ 0 ≤ r ∧ r < n) := ⟨_, rfl, hr0, hr1⟩
    clear hr0 hr1
    obtain ⟨r, hr, hr0, hr1⟩ := Hr.out
    clear Hr
    have Hr := Lib.hid hr
    have hrb : (r != (d : Int) % n) = false := by simp [hr]
    clear hr
    go_enter Try.func4, Try.ntmps4
    go_wp2_with (first
      | (go_at_call 10; refine (awake_any _).mono ?_; rintro e w' ⟨rfl, rfl⟩)
      | (go_at_call 11; refine (pick_r _ _ _ _ (by omega) hn (by omega) Hr).mono ?_; rintro e w' ⟨rfl, rfl⟩)
      | ((with_reducible refine wpList_load_laid 66 7 32 ⟨w.heap.size, 0, none⟩ fs ?_ ?_ ?_ ?_ ?_); rfl; kernel_rfl; (rw [hfs.size]; kernel_rfl); exact laid_new _ _ _)
      | (go_at_call 12; refine (match_none _ _ _ _ _).mono ?_; rintro e w1 ⟨rfl, hB⟩))
    go_ret
    exact ⟨rfl, ((Below.refl _ _).alloc (Nat.le_refl _) _).trans (hB.mono (by simp))⟩

set_option maxHeartbeats 2000000 in
theorem picks_some (q : Bool) (d len cap k : Nat) (n : Int) (a : Addr) (fs : Array Value) (F : Nat → Array Value) (w : World) (hn0 : -9223372036854775808 ≤ n) (hn : n ≤ 9223372036854775807) (hfs : Flat Try.prog 32 fs) (h0 : 1 ≤ len) (hl : len ≤ 100)
    (hk : Hid (d % len = k)) (hk1 : k < len) (ha : a.block < w.heap.size) (hq : Hid (eqA (F k) fs = q)) (hF : ∀ i, i < len → Flat Try.prog 32 (F i) ∧ Laid w (a.add (i * 36)) (F i)) :
    Calls Try.prog 4 #[.int .u64 d, .int .i64 n, .slice (some a) len cap, .agg fs] w fun e w' => e = .returned (.bool true) ∧ Below w.heap.size w w' := by
  have hb : (len == 0) = false := by simp; omega
  have hblk : ∀ j, (a.add j).block = a.block := fun j => by unfold Addr.add; split <;> rfl
  have hF' : ∀ i, i < len → Flat Try.prog 32 (F i) ∧ Laid (w.alloc (.cells fs 32)) (a.add (i * 36)) (F i) := fun i hi =>
    ⟨(hF i hi).1, (hF i hi).2.below ((Below.refl _ _).alloc (Nat.le_refl w.heap.size) (.cells fs 32)) (by rw [hblk]; exact ha)⟩
  obtain ⟨hFk, hLk⟩ := hF k hk1
  have hLk' := (hF' k hk1).2
  have hba := hblk (k * 36)
  have hA := Lib.hid hba
  clear hba
  have hmod : ((d : Int) % (len : Int)) = (k : Int) := by rw [← Int.natCast_emod, hk.out]
  have hlt : (a.add (k * 36)).block < w.heap.size := by rw [hA.out]; exact ha
  have HF' := Lib.hid hF'
  clear hF hF' hblk
  cases q <;> by_cases h1 : n < 1
  · go_enter Try.func4, Try.ntmps4
    go_wp2_with (first
      | (go_at_call 10; refine (awake_any _).mono ?_; rintro e w' ⟨rfl, rfl⟩)
      | (go_at_call 11; refine (pick_no _ _ _ h1).mono ?_; rintro e w' ⟨rfl, rfl⟩)
      | ((with_reducible refine wpList_load_laid 66 7 32 ⟨w.heap.size, 0, none⟩ fs ?_ ?_ ?_ ?_ ?_); rfl; kernel_rfl; (rw [hfs.size]; kernel_rfl); exact laid_new _ _ _)
      | (go_at_call 12; refine (match_some' false _ _ _ _ _ _ F _ h0 (by omega) hk hk1 (by simp; omega) hfs hq HF'.out).mono ?_; rintro e w1 ⟨rfl, hB⟩; have hL1 := hLk'.below hB (by simp; omega); have hL2 := (laid_new w fs 32).below hB (by simp)))
    refine wp_region_quiet_lit (by kernel_rfl) (by kernel_rfl) ?_
    repeat (first
      | (go_big_quiet_step (fail))
      | (go_big_quiet_want; refine quiet_load rfl _ rfl (F k) (by kernel_rfl) (by rw [hFk.size]; kernel_rfl) (by rintro _ ⟨n, rfl⟩; exact hL1.drewN n) ?_; go_big_quiet_on; go_frame)
      | (go_big_quiet_want; refine quiet_load rfl _ rfl fs (by kernel_rfl) (by rw [hfs.size]; kernel_rfl) (by rintro _ ⟨n, rfl⟩; exact hL2.drewN n) ?_; go_big_quiet_on; go_frame)
      | (go_big_quiet_want; refine quiet_eql rfl (F k) fs rfl rfl hFk hfs flow_guard ?_; go_big_quiet_on; go_frame))
    refine wpQuiet_nil ?_
    rintro _ ⟨nq, rfl⟩
    rw [hq.out]
    clear hq
    go_wp2
    go_ret
    exact ⟨rfl, below_drewN (((Below.refl _ _).alloc (Nat.le_refl _) _).trans (hB.mono (by simp))) _⟩
  ·
    obtain ⟨hr0, hr1⟩ := emod_u64 d n (by omega) (by omega)
    have Hr : Hid (∃ r, (d : Int) % n = r ∧ 0 ≤ r ∧ r < n) := ⟨_, rfl, hr0, hr1⟩
    clear hr0 hr1
    obtain ⟨r, hr, hr0, hr1⟩ := Hr.out
    clear Hr
    have Hr := Lib.hid hr
    have hrb : (r != (d : Int) % n) = false := by simp [hr]
    clear hr
    go_enter Try.func4, Try.ntmps4
    go_wp2_with (first
      | (go_at_call 10; refine (awake_any _).mono ?_; rintro e w' ⟨rfl, rfl⟩)
      | (go_at_call 11; refine (pick_r _ _ _ _ (by omega) hn (by omega) Hr).mono ?_; rintro e w' ⟨rfl, rfl⟩)
      | ((with_reducible refine wpList_load_laid 66 7 32 ⟨w.heap.size, 0, none⟩ fs ?_ ?_ ?_ ?_ ?_); rfl; kernel_rfl; (rw [hfs.size]; kernel_rfl); exact laid_new _ _ _)
      | (go_at_call 12; refine (match_some' false _ _ _ _ _ _ F _ h0 (by omega) hk hk1 (by simp; omega) hfs hq HF'.out).mono ?_; rintro e w1 ⟨rfl, hB⟩; have hL1 := hLk'.below hB (by simp; omega); have hL2 := (laid_new w fs 32).below hB (by simp)))
    refine wp_region_quiet_lit (by kernel_rfl) (by kernel_rfl) ?_
    repeat (first
      | (go_big_quiet_step (fail))
      | (go_big_quiet_want; refine quiet_load rfl _ rfl (F k) (by kernel_rfl) (by rw [hFk.size]; kernel_rfl) (by rintro _ ⟨n, rfl⟩; exact hL1.drewN n) ?_; go_big_quiet_on; go_frame)
      | (go_big_quiet_want; refine quiet_load rfl _ rfl fs (by kernel_rfl) (by rw [hfs.size]; kernel_rfl) (by rintro _ ⟨n, rfl⟩; exact hL2.drewN n) ?_; go_big_quiet_on; go_frame)
      | (go_big_quiet_want; refine quiet_eql rfl (F k) fs rfl rfl hFk hfs flow_guard ?_; go_big_quiet_on; go_frame))
    refine wpQuiet_nil ?_
    rintro _ ⟨nq, rfl⟩
    rw [hq.out]
    clear hq
    go_wp2
    go_ret
    exact ⟨rfl, below_drewN (((Below.refl _ _).alloc (Nat.le_refl _) _).trans (hB.mono (by simp))) _⟩
  · go_enter Try.func4, Try.ntmps4
    go_wp2_with (first
      | (go_at_call 10; refine (awake_any _).mono ?_; rintro e w' ⟨rfl, rfl⟩)
      | (go_at_call 11; refine (pick_no _ _ _ h1).mono ?_; rintro e w' ⟨rfl, rfl⟩)
      | ((with_reducible refine wpList_load_laid 66 7 32 ⟨w.heap.size, 0, none⟩ fs ?_ ?_ ?_ ?_ ?_); rfl; kernel_rfl; (rw [hfs.size]; kernel_rfl); exact laid_new _ _ _)
      | (go_at_call 12; refine (match_some' true _ _ _ _ _ _ F _ h0 (by omega) hk hk1 (by simp; omega) hfs hq HF'.out).mono ?_; rintro e w1 ⟨rfl, hB⟩; have hL1 := hLk'.below hB (by simp; omega); have hL2 := (laid_new w fs 32).below hB (by simp)))
    refine wp_region_quiet_lit (by kernel_rfl) (by kernel_rfl) ?_
    repeat (first
      | (go_big_quiet_step (fail))
      | (go_big_quiet_want; refine quiet_load rfl _ rfl (F k) (by kernel_rfl) (by rw [hFk.size]; kernel_rfl) (by rintro _ ⟨n, rfl⟩; exact hL1.drewN n) ?_; go_big_quiet_on; go_frame)
      | (go_big_quiet_want; refine quiet_load rfl _ rfl fs (by kernel_rfl) (by rw [hfs.size]; kernel_rfl) (by rintro _ ⟨n, rfl⟩; exact hL2.drewN n) ?_; go_big_quiet_on; go_frame)
      | (go_big_quiet_want; refine quiet_eql rfl (F k) fs rfl rfl hFk hfs flow_guard ?_; go_big_quiet_on; go_frame))
    refine wpQuiet_nil ?_
    rintro _ ⟨nq, rfl⟩
    rw [hq.out]
    clear hq
    go_wp2
    go_ret
    exact ⟨rfl, below_drewN (((Below.refl _ _).alloc (Nat.le_refl _) _).trans (hB.mono (by simp))) _⟩
  ·
    obtain ⟨hr0, hr1⟩ := emod_u64 d n (by omega) (by omega)
    have Hr : Hid (∃ r, (d : Int) % n = r ∧ 0 ≤ r ∧ r < n) := ⟨_, rfl, hr0, hr1⟩
    clear hr0 hr1
    obtain ⟨r, hr, hr0, hr1⟩ := Hr.out
    clear Hr
    have Hr := Lib.hid hr
    have hrb : (r != (d : Int) % n) = false := by simp [hr]
    clear hr
    go_enter Try.func4, Try.ntmps4
    go_wp2_with (first
      | (go_at_call 10; refine (awake_any _).mono ?_; rintro e w' ⟨rfl, rfl⟩)
      | (go_at_call 11; refine (pick_r _ _ _ _ (by omega) hn (by omega) Hr).mono ?_; rintro e w' ⟨rfl, rfl⟩)
      | ((with_reducible refine wpList_load_laid 66 7 32 ⟨w.heap.size, 0, none⟩ fs ?_ ?_ ?_ ?_ ?_); rfl; kernel_rfl; (rw [hfs.size]; kernel_rfl); exact laid_new _ _ _)
      | (go_at_call 12; refine (match_some' true _ _ _ _ _ _ F _ h0 (by omega) hk hk1 (by simp; omega) hfs hq HF'.out).mono ?_; rintro e w1 ⟨rfl, hB⟩; have hL1 := hLk'.below hB (by simp; omega); have hL2 := (laid_new w fs 32).below hB (by simp)))
    refine wp_region_quiet_lit (by kernel_rfl) (by kernel_rfl) ?_
    repeat (first
      | (go_big_quiet_step (fail))
      | (go_big_quiet_want; refine quiet_load rfl _ rfl (F k) (by kernel_rfl) (by rw [hFk.size]; kernel_rfl) (by rintro _ ⟨n, rfl⟩; exact hL1.drewN n) ?_; go_big_quiet_on; go_frame)
      | (go_big_quiet_want; refine quiet_load rfl _ rfl fs (by kernel_rfl) (by rw [hfs.size]; kernel_rfl) (by rintro _ ⟨n, rfl⟩; exact hL2.drewN n) ?_; go_big_quiet_on; go_frame)
      | (go_big_quiet_want; refine quiet_eql rfl (F k) fs rfl rfl hFk hfs flow_guard ?_; go_big_quiet_on; go_frame))
    refine wpQuiet_nil ?_
    rintro _ ⟨nq, rfl⟩
    rw [hq.out]
    clear hq
    go_wp2
    go_ret
    exact ⟨rfl, below_drewN (((Below.refl _ _).alloc (Nat.le_refl _) _).trans (hB.mono (by simp))) _⟩

theorem walk_picks (d n : Int) (a : Option Addr) (len cap : Nat) (fs : Array Value) (w : World) (hd : (Lit.int .u64 d).wf = true) (hn : (Lit.int .i64 n).wf = true) (hr : ∃ F, FRow Try.prog 3 32 w a len cap F) (hf : Flat Try.prog 32 fs ∧ Fits (shapeOf Try.prog 3 32) fs.toList) :
    Calls Try.prog 4 #[.int .u64 d, .int .i64 n, .slice a len cap, .agg fs] w fun e w' => e = .returned (.bool true) ∧ Below w.heap.size w w' := by
  obtain ⟨d0, d1⟩ := bounds_u64 hd
  obtain ⟨n0, n1⟩ := bounds_i64 hn
  obtain ⟨d, rfl⟩ := Int.eq_ofNat_of_zero_le d0
  obtain ⟨F, hl, hc, hF⟩ := hr
  have hm : len ≤ 9223372036854775807 := by simp only [maxLen] at hc; omega
  rcases Nat.lt_or_ge 100 len with h | h
  · exact picks_many _ _ _ _ _ _ _ h hm
  · rcases Nat.eq_zero_or_pos len with h0 | h0
    · subst h0
      exact picks_none _ _ _ _ _ _ n0 n1 hf.1
    · obtain ⟨x, rfl, hx, hF⟩ := hF h0
      exact picks_some _ d len cap (d % len) n x fs F w n0 n1 hf.1 h0 h rfl (Nat.mod_lt _ h0) hx rfl (fun i hi => ⟨(hF i hi).1, by have := (hF i hi).2.2; rwa [flow_cells] at this⟩)
end Go.Proofs.Ytflgpbjhjomogaa.C
