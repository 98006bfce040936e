/- The walk of QuotaReserves. -/
import Derived.Test.YtflgpbjhjomogaaQuotaP
import Derived.Test.YtflgpbjhjomogaaQuota3
import Derived.Test.YtflgpbjhjomogaaAct
namespace Go.Proofs.Ytflgpbjhjomogaa.C
open Go.RowKit
set_option linter.unusedVariables false

theorem repl_zero (n c : Nat) : (List.replicate n (0 : Int)).getD c 0 = 0 := by
  rw [List.getD_eq_getElem?_getD, List.getElem?_replicate]
  split <;> rfl
theorem reserves_many (c r s : Nat) (a : Option Addr) (len cap : Nat) (w : World) (hc : c ≤ 255) (hr : r ≤ 4294967295) (hs : s ≤ 4294967295) (h : 60 < len) (hm : len ≤ 9223372036854775807) :
    Calls Try.prog 6 #[.int .u8 c, .int .u32 r, .int .u32 s, .slice a len cap] w fun e w' => e = .returned (.bool true) ∧ Below w.heap.size w w' := by
  go_enter Try.func6, Try.ntmps6
  go_wp2_with fail
  refine (qawake _).mono ?_
  rintro e w1 ⟨rfl, hB1⟩
  go_wp2_with fail
  refine (qawake _).mono ?_
  rintro e w2 ⟨rfl, hB2⟩
  go_wp2
  go_ret
  exact ⟨rfl, hB1.trans (hB2.mono hB1.size)⟩

set_option maxHeartbeats 1000000 in
theorem reserves_few (c r s : Nat) (a : Option Addr) (len cap : Nat) (w : World) (hc : c ≤ 255) (hr : r ≤ 4294967295) (hs : s ≤ 4294967295) (h : len ≤ 60) (hA : Acts w a len) :
    Calls Try.prog 6 #[.int .u8 c, .int .u32 r, .int .u32 s, .slice a len cap] w fun e w' => e = .returned (.bool true) ∧ Below w.heap.size w w' := by
  have hgt : decide (60 < len) = false := by simp; omega
  obtain ⟨N, hN⟩ : ∃ N, 1 + c % 20 = N := ⟨_, rfl⟩
  obtain ⟨R, hR⟩ : ∃ R, r % 1073741824 = R := ⟨_, rfl⟩
  obtain ⟨S, hS⟩ : ∃ S, s % 1073741824 = S := ⟨_, rfl⟩
  have n1 : 1 ≤ N := by omega
  have n2 : N ≤ 20 := by omega
  have r1 : R ≤ 1073741823 := by omega
  have s1 : S ≤ 1073741823 := by omega
  have e1 : (1 : Int) + (c : Int) % 20 = (N : Int) := by omega
  have e2 : (r : Int) % 1073741824 = (R : Int) := by omega
  have e3 : (s : Int) % 1073741824 = (S : Int) := by omega
  have HA := Lib.hid hA
  clear hN hR hS hA
  go_enter Try.func6, Try.ntmps6
  go_wp2_with fail
  refine (qawake _).mono ?_
  rintro e w1 ⟨rfl, hB1⟩
  go_wp2_with fail
  refine (new_ok N R S w1 n1 (by omega) (by omega) (by omega) (by omega) (by omega)).mono ?_
  rintro e w2 ⟨rfl, hQ, hB2⟩
  have hB := hB1.trans (hB2.mono hB1.size)
  have hpb : w.heap.size ≤ w1.heap.size := hB1.size
  generalize w1.heap.size = b at hQ hpb
  clear hB1 hB2 e1 e2 e3
  have HQ := Lib.hid hQ
  clear hQ
  go_wp2_with fail
  go_loopw [42] (fun c wr => ∃ (k : Nat) (s' : Int) (l : List Int), k ≤ len ∧ c = .int .i64 k ∧ QAt wr (b + 1) b R S s' l ∧ InvA R S k s' l ∧ l.length = N ∧ l.getD 0 0 = 0 ∧ Below w.heap.size w wr)
    (fun c _ => len - (intOf c).toNat)
  case atStart => exact ⟨0, 0, List.replicate N 0, by omega, rfl, HQ.out, InvA.zero N (by omega), by simp, repl_zero N 0, hB⟩
  case round =>
    obtain ⟨k, s', l, hk, rfl, hQ, hI, hlN, hl0, hB'⟩ := hrel
    have hok := hI.ok (by omega) (by omega) (by omega) (by omega)
    by_cases hlt : k < len
    · obtain ⟨x, kd, cl, to, n, rfl, hx, hact, hkd, hcl, hto, hn⟩ := HA.out k hlt
      obtain ⟨q0, q1, q2, q3⟩ := hact.below hB' hx
      clear hact q0 q2
      have HL := Lib.hid hlN
      have H0 := Lib.hid hl0
      clear hlN hl0
      by_cases hz : cl = 0
      · have hzb : (cl != 0) = false := by simp [hz]
        clear hz
        go_wp2
        go_roundw
        case rel => exact ⟨k + 1, s', l, by omega, by go_num, hQ, hI.up, HL.out, H0.out, hB'⟩
        case measure => simp [intOf]; omega
      · have hzb : (cl != 0) = true := by simp [hz]
        have HZ : Hid ((cl == 0) = false) := by simp [Hid, hz]
        clear hz
        go_wp2_with fail
        refine wp_region_still_tail 12 (by kernel_rfl) (by kernel_rfl) ?_
        change wpStill _ _ wr.drew (fun a' => wpList _ _ _ _ a' wr.drew) _ _
        simp only [List.take_succ_cons, List.take_zero, List.drop_succ_cons, List.drop_zero]
        have C := Lib.hid (add_any (b + 1) b R S s' cl n l wr.drew ⟨hQ.ptr, hQ.row⟩ hok (by omega))
        have p1 : Below w.heap.size w wr.drew := hB'.drew
        have g1 : wr.drew.cell? ⟨(x.add (k * 4)).block, (x.add (k * 4)).off + 1, none⟩ = some (.int .i8 cl) := q1
        have g3 : wr.drew.cell? ⟨(x.add (k * 4)).block, (x.add (k * 4)).off + 3, none⟩ = some (.int .i64 n) := q3
        clear hQ hB' q1 q3 hok
        generalize wr.drew = w3 at *
        iterate 12 still_step
        refine wpStill_nil ?_
        go_wp2_with fail
        refine C.out.mono ?_
        rintro e w4 ⟨rfl, hQ4, ht4⟩
        have hB4 := p1.trans (ht4.below p1.size (by omega) (by omega))
        have hL4 : (addL R S s' l cl n).length = N := by rw [length_addL]; exact HL.out
        have h04 := addL_zero (r := R) (m := S) (s := s') (n := n) HZ.out H0.out
        have HI4 := Lib.hid (hI.add cl n)
        have HQ4 := Lib.hid hQ4
        have HL4 := Lib.hid hL4
        have H04 := Lib.hid h04
        clear hQ4 hL4 h04 C hI
        go_wp2
        go_roundw
        case rel => exact ⟨k + 1, _, _, by omega, by go_num, HQ4.out, HI4.out, HL4.out, H04.out, hB4⟩
        case measure => simp [intOf]; omega
    · have C1 := Lib.hid (fits_any (b + 1) b R S s' 0 R l wr hQ hok (by omega))
      have C2 : Hid (∀ n, Calls Try.prog 17 #[.pointer (some ⟨b + 1, 0, none⟩)] (wr.drewN n) fun e w' => e = .returned (.int .i64 s') ∧ w' = wr.drewN n) := fun n => shared_any (b + 1) b R S s' l (wr.drewN n) (hQ.drewN n)
      rw [reserve_fits (by omega) (by omega) hI.s1 (by omega) hl0] at C1
      have hs0 := hI.s1
      clear hok hQ hI hlN hl0
      go_wp2_with fail
      refine C1.out.mono ?_
      rintro e w4 ⟨rfl, m, rfl⟩
      go_wp2_with fail
      refine (C2.out m).mono ?_
      rintro e w5 ⟨rfl, rfl⟩
      have hd : decide (s' ≤ (S : Int)) = true := by simpa using hs0
      go_wp2
      go_ret
      exact ⟨rfl, below_drewN hB' m⟩

theorem walk_reserves (c r s : Int) (a : Option Addr) (len cap : Nat) (w : World) (hc : (Lit.int .u8 c).wf = true) (hr : (Lit.int .u32 r).wf = true) (hs : (Lit.int .u32 s).wf = true) (hA : Acts w a len ∧ len ≤ 9223372036854775807) :
    Calls Try.prog 6 #[.int .u8 c, .int .u32 r, .int .u32 s, .slice a len cap] w fun e w' => e = .returned (.bool true) ∧ Below w.heap.size w w' := by
  obtain ⟨c0, c1⟩ := bounds_u8 hc
  obtain ⟨r0, r1⟩ := bounds_u32 hr
  obtain ⟨s0, s1⟩ := bounds_u32 hs
  obtain ⟨c, rfl⟩ := Int.eq_ofNat_of_zero_le c0
  obtain ⟨r, rfl⟩ := Int.eq_ofNat_of_zero_le r0
  obtain ⟨s, rfl⟩ := Int.eq_ofNat_of_zero_le s0
  rcases Nat.lt_or_ge 60 len with h | h
  · exact reserves_many c r s a len cap w (by omega) (by omega) (by omega) h hA.2
  · exact reserves_few c r s a len cap w (by omega) (by omega) (by omega) h hA.1
end Go.Proofs.Ytflgpbjhjomogaa.C
