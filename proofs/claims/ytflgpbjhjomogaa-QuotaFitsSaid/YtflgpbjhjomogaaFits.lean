/- The walk of QuotaFits. -/
import Derived.Test.YtflgpbjhjomogaaReserves
namespace Go.Proofs.Ytflgpbjhjomogaa.C
open Go.RowKit
set_option linter.unusedVariables false

theorem fits_many (r s : Nat) (a : Option Addr) (len cap : Nat) (cl n less : Int) (w : World) (h : 60 < len) (hm : len ≤ 9223372036854775807) :
    Calls Try.prog 7 #[.int .u32 r, .int .u32 s, .slice a len cap, .int .i8 cl, .int .i64 n, .int .i64 less] w fun e w' => e = .returned (.bool true) ∧ Below w.heap.size w w' := by
  go_enter Try.func7, Try.ntmps7
  go_wp2_with fail
  refine (qawake _).mono ?_
  rintro e w1 ⟨rfl, hB1⟩
  go_wp2_with fail
  refine (qawake _).mono ?_
  rintro e w2 ⟨rfl, hB2⟩
  go_wp2
  go_ret
  exact ⟨rfl, hB1.trans (hB2.mono hB1.size)⟩

set_option maxHeartbeats 1000000 in
theorem fits_few (r s : Nat) (a : Option Addr) (len cap : Nat) (cl n less : Int) (w : World) (hcl : -128 ≤ cl ∧ cl ≤ 127) (hn : -9223372036854775808 ≤ n ∧ n ≤ 9223372036854775807) (hr : r ≤ 4294967295) (hs : s ≤ 4294967295) (h : len ≤ 60) (hA : Acts w a len) :
    Calls Try.prog 7 #[.int .u32 r, .int .u32 s, .slice a len cap, .int .i8 cl, .int .i64 n, .int .i64 less] w fun e w' => e = .returned (.bool true) ∧ Below w.heap.size w w' := by
  have hgt : decide (60 < len) = false := by simp; omega
  obtain ⟨hcl0, hcl1⟩ := hcl
  obtain ⟨R, hR⟩ : ∃ R, r % 1073741824 = R := ⟨_, rfl⟩
  obtain ⟨S, hS⟩ : ∃ S, s % 1073741824 = S := ⟨_, rfl⟩
  have r1 : R ≤ 1073741823 := by omega
  have s1 : S ≤ 1073741823 := by omega
  have e2 : (r : Int) % 1073741824 = (R : Int) := by omega
  have e3 : (s : Int) % 1073741824 = (S : Int) := by omega
  have HA := Lib.hid hA
  clear hR hS hA
  go_enter Try.func7, Try.ntmps7
  go_wp2_with fail
  refine (qawake _).mono ?_
  rintro e w1 ⟨rfl, hB1⟩
  go_wp2_with fail
  refine (new_ok 5 R S w1 (by omega) (by omega) (by omega) (by omega) (by omega) (by omega)).mono ?_
  rintro e w2 ⟨rfl, hQ, hB2⟩
  have hB := hB1.trans (hB2.mono hB1.size)
  have hpb : w.heap.size ≤ w1.heap.size := hB1.size
  generalize w1.heap.size = b at hQ hpb
  clear hB1 hB2 e2 e3
  have HQ := Lib.hid hQ
  clear hQ
  go_wp2_with fail
  go_loopw [39] (fun c wr => ∃ (k : Nat) (s' : Int) (l : List Int), k ≤ len ∧ c = .int .i64 k ∧ QAt wr (b + 1) b R S s' l ∧ InvA R S k s' l ∧ l.length = 5 ∧ Below w.heap.size w wr)
    (fun c _ => len - (intOf c).toNat)
  case atStart => exact ⟨0, 0, List.replicate 5 0, by omega, rfl, HQ.out, InvA.zero 5 (by omega), rfl, hB⟩
  case round =>
    obtain ⟨k, s', l, hk, rfl, hQ, hI, hlN, hB'⟩ := hrel
    have hok := hI.ok (by omega) (by omega) (by omega) (by omega)
    by_cases hlt : k < len
    · obtain ⟨x, kd, ac, to, an, rfl, hx, hact, hkd, hac, hto, han⟩ := HA.out k hlt
      obtain ⟨q0, q1, q2, q3⟩ := hact.below hB' hx
      clear hact q0 q2
      have HL := Lib.hid hlN
      clear hlN
      go_wp2_with fail
      refine wp_region_still_tail 12 (by kernel_rfl) (by kernel_rfl) ?_
      change wpStill _ _ wr.drew (fun a' => wpList _ _ _ _ a' wr.drew) _ _
      simp only [List.take_succ_cons, List.take_zero, List.drop_succ_cons, List.drop_zero]
      have C := Lib.hid (add_any (b + 1) b R S s' ac an l wr.drew ⟨hQ.ptr, hQ.row⟩ hok (by omega))
      have p1 : Below w.heap.size w wr.drew := hB'.drew
      have g1 : wr.drew.cell? ⟨(x.add (k * 4)).block, (x.add (k * 4)).off + 1, none⟩ = some (.int .i8 ac) := q1
      have g3 : wr.drew.cell? ⟨(x.add (k * 4)).block, (x.add (k * 4)).off + 3, none⟩ = some (.int .i64 an) := q3
      clear hQ hB' q1 q3 hok
      generalize wr.drew = w3 at *
      iterate 12 still_step
      refine wpStill_nil ?_
      go_wp2_with fail
      refine C.out.mono ?_
      rintro e w4 ⟨rfl, hQ4, ht4⟩
      have hB4 := p1.trans (ht4.below p1.size (by omega) (by omega))
      have hL4 : (addL R S s' l ac an).length = 5 := by rw [length_addL]; exact HL.out
      have HI4 := Lib.hid (hI.add ac an)
      have HQ4 := Lib.hid hQ4
      have HL4 := Lib.hid hL4
      clear hQ4 hL4 C hI
      go_wp2
      go_roundw
      case rel => exact ⟨k + 1, _, _, by omega, by go_num, HQ4.out, HI4.out, HL4.out, hB4⟩
      case measure => simp [intOf]; omega
    · have br := bytesQ_range hI cl
      have C1 := Lib.hid (fits_any (b + 1) b R S s' cl n l wr hQ hok (by omega))
      have C2 : Hid (∀ m, Calls Try.prog 18 #[.pointer (some ⟨b + 1, 0, none⟩), .int .i64 cl] (wr.drewN m) fun e w' => e = .returned (.int .i64 (bytesQ l cl)) ∧ w' = wr.drewN m) := fun m => bytes_any (b + 1) b R S s' cl l (wr.drewN m) (hQ.drewN m) (by omega)
      have C3 : Hid (∀ m, Calls Try.prog 16 #[.pointer (some ⟨b + 1, 0, none⟩), .int .i64 cl, .int .i64 less] (wr.drewN m) (Quiet (.bool (fitsB R S s' l cl less)) (wr.drewN m))) := fun m => fits_any (b + 1) b R S s' cl less l (wr.drewN m) (hQ.drewN m) hok (by omega)
      have C4 : Hid (∀ m, Calls Try.prog 15 #[.pointer (some ⟨b + 1, 0, none⟩), .int .i64 cl, .int .i64 n] (wr.drewN m) fun e w' => e = .returned (.bool (fitsB R S s' l cl n)) ∧ QAt w' (b + 1) b R S (addS R S s' l cl n) (addL R S s' l cl n) ∧ Two (b + 1) b (wr.drewN m) w') := fun m => add_any (b + 1) b R S s' cl n l (wr.drewN m) (hQ.drewN m) hok (by omega)
      have C5 : Hid (∀ W, QAt W (b + 1) b R S (addS R S s' l cl n) (addL R S s' l cl n) → Calls Try.prog 18 #[.pointer (some ⟨b + 1, 0, none⟩), .int .i64 cl] W fun e w' => e = .returned (.int .i64 (bytesQ (addL R S s' l cl n) cl)) ∧ w' = W) := fun W hW => bytes_any (b + 1) b R S _ cl _ W hW (by rw [length_addL]; omega)
      cases hf : fitsB R S s' l cl n with
      | false =>
        have hby := bytes_not (d := cl) hf
        rw [hf] at C1 C4
        rw [hby] at C5
        clear hok hQ hI hlN hf hby
        generalize bytesQ l cl = y at *
        go_wp2_with fail
        refine C1.out.mono ?_
        rintro e w4 ⟨rfl, m, rfl⟩
        go_wp2_with fail
        refine (C2.out m).mono ?_
        rintro e w5 ⟨rfl, rfl⟩
        clear C1 C2
        go_wp2_with fail
        refine (C4.out m).mono ?_
        rintro e w5 ⟨rfl, hQ5, ht5⟩
        have HQ5 := Lib.hid hQ5
        clear hQ5 C4
        go_wp2_with fail
        refine (C5.out _ HQ5.out).mono ?_
        rintro e w6 ⟨rfl, rfl⟩
        go_wp2
        go_ret
        exact ⟨rfl, (below_drewN hB' m).trans (ht5.below (by have := hB'.size; simpa using this) (by omega) (by omega))⟩
      | true =>
        obtain ⟨f1, f2, f3, f4, _⟩ := fits_in hf
        have hby := bytes_add hf
        have hw : IntKind.i64.wrap (bytesQ l cl + n) = bytesQ l cl + n := IntWalk.i64_in _ (by omega)
        have HLESS : Hid (0 ≤ less → less ≤ n → fitsB R S s' l cl less = true) := fun h0 h1 => fits_less hf h0 h1
        rw [hf] at C1 C4
        rw [hby] at C5
        clear hok hQ hI hlN hf hby f1 f2
        generalize bytesQ l cl = y at *
        have hend : ∀ (m : Nat) (w5 : World), Two (b + 1) b (wr.drewN m) w5 → Below w.heap.size w w5 := fun m w5 ht5 => (below_drewN hB' m).trans (ht5.below (by have := hB'.size; simpa using this) (by omega) (by omega))
        have HEND := Lib.hid hend
        clear hend
        by_cases hl0 : less < 0
        · go_wp2_with fail
          refine C1.out.mono ?_
          rintro e w4 ⟨rfl, m, rfl⟩
          go_wp2_with fail
          refine (C2.out m).mono ?_
          rintro e w5 ⟨rfl, rfl⟩
          clear C1 C2
          go_wp2_with fail
          refine (C4.out m).mono ?_
          rintro e w5 ⟨rfl, hQ5, ht5⟩
          have HQ5 := Lib.hid hQ5
          clear hQ5 C4
          go_wp2_with fail
          refine (C5.out _ HQ5.out).mono ?_
          rintro e w6 ⟨rfl, rfl⟩
          go_wp2
          go_ret
          exact ⟨rfl, HEND.out m _ ht5⟩
        · by_cases hl1 : n < less
          · have hl0' : 0 ≤ less := by omega
            have hd : decide (less ≤ n) = false := by simp; omega
            go_wp2_with fail
            refine C1.out.mono ?_
            rintro e w4 ⟨rfl, m, rfl⟩
            go_wp2_with fail
            refine (C2.out m).mono ?_
            rintro e w5 ⟨rfl, rfl⟩
            clear C1 C2
            go_wp2_with fail
            refine (C4.out m).mono ?_
            rintro e w5 ⟨rfl, hQ5, ht5⟩
            have HQ5 := Lib.hid hQ5
            clear hQ5 C4
            go_wp2_with fail
            refine (C5.out _ HQ5.out).mono ?_
            rintro e w6 ⟨rfl, rfl⟩
            go_wp2
            go_ret
            exact ⟨rfl, HEND.out m _ ht5⟩
          · have hl0' : 0 ≤ less := by omega
            have hl1' : less ≤ n := by omega
            have hd : decide (less ≤ n) = true := by simpa using hl1'
            rw [HLESS.out hl0' hl1'] at C3
            go_wp2_with fail
            refine C1.out.mono ?_
            rintro e w4 ⟨rfl, m, rfl⟩
            go_wp2_with fail
            refine (C2.out m).mono ?_
            rintro e w5 ⟨rfl, rfl⟩
            clear C1 C2
            go_wp2_with fail
            refine (C3.out m).mono ?_
            rintro e w5 ⟨rfl, m2, rfl⟩
            rw [World.drewN_drewN]
            clear C3
            go_wp2_with fail
            refine (C4.out (m + m2)).mono ?_
            rintro e w5 ⟨rfl, hQ5, ht5⟩
            have HQ5 := Lib.hid hQ5
            clear hQ5 C4
            go_wp2_with fail
            refine (C5.out _ HQ5.out).mono ?_
            rintro e w6 ⟨rfl, rfl⟩
            go_wp2
            go_ret
            exact ⟨rfl, HEND.out (m + m2) _ ht5⟩

theorem walk_fits (r s : Int) (a : Option Addr) (len cap : Nat) (cl n less : Int) (w : World) (hr : (Lit.int .u32 r).wf = true) (hs : (Lit.int .u32 s).wf = true) (hA : Acts w a len ∧ len ≤ 9223372036854775807)
    (hcl : (Lit.int .i8 cl).wf = true) (hn : (Lit.int .i64 n).wf = true) (hd : (Lit.int .i64 less).wf = true) :
    Calls Try.prog 7 #[.int .u32 r, .int .u32 s, .slice a len cap, .int .i8 cl, .int .i64 n, .int .i64 less] w fun e w' => e = .returned (.bool true) ∧ Below w.heap.size w w' := by
  obtain ⟨r0, r1⟩ := bounds_u32 hr
  obtain ⟨s0, s1⟩ := bounds_u32 hs
  obtain ⟨r, rfl⟩ := Int.eq_ofNat_of_zero_le r0
  obtain ⟨s, rfl⟩ := Int.eq_ofNat_of_zero_le s0
  rcases Nat.lt_or_ge 60 len with h | h
  · exact fits_many r s a len cap cl n less w h hA.2
  · exact fits_few r s a len cap cl n less w (bounds_i8 hcl) (bounds_i64 hn) (by omega) (by omega) h hA.1
end Go.Proofs.Ytflgpbjhjomogaa.C
