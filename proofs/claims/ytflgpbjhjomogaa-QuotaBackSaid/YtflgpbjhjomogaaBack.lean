/- The walk of QuotaBack. -/
import Derived.Test.YtflgpbjhjomogaaReserves
import Derived.Test.YtflgpbjhjomogaaBackP
namespace Go.Proofs.Ytflgpbjhjomogaa.C
open Go.RowKit
set_option linter.unusedVariables false

theorem back_many (r s : Nat) (a : Option Addr) (len cap : Nat) (u v n : Int) (w : World) (h : 60 < len) (hm : len ≤ 9223372036854775807) :
    Calls Try.prog 9 #[.int .u32 r, .int .u32 s, .slice a len cap, .int .u8 u, .int .u8 v, .int .i64 n] w fun e w' => e = .returned (.bool true) ∧ Below w.heap.size w w' := by
  go_enter Try.func9, Try.ntmps9
  go_wp2_with fail
  refine (qawake _).mono ?_
  rintro e w1 ⟨rfl, hB1⟩
  go_wp2_with fail
  refine (qawake _).mono ?_
  rintro e w2 ⟨rfl, hB2⟩
  go_wp2
  go_ret
  exact ⟨rfl, hB1.trans (hB2.mono hB1.size)⟩

set_option maxHeartbeats 2000000 in
theorem back_few (r s : Nat) (a : Option Addr) (len cap : Nat) (u v n : Int) (w : World) (hu : 0 ≤ u ∧ u ≤ 255) (hv : 0 ≤ v ∧ v ≤ 255) (hn : -9223372036854775808 ≤ n ∧ n ≤ 9223372036854775807) (hr : r ≤ 4294967295) (hs : s ≤ 4294967295) (h : len ≤ 60) (hA : Acts w a len) :
    Calls Try.prog 9 #[.int .u32 r, .int .u32 s, .slice a len cap, .int .u8 u, .int .u8 v, .int .i64 n] w fun e w' => e = .returned (.bool true) ∧ Below w.heap.size w w' := by
  obtain ⟨hu0, hu1⟩ := hu
  obtain ⟨hv0, hv1⟩ := hv
  have hgt : decide (60 < len) = false := by simp; omega
  obtain ⟨R, hR⟩ : ∃ R, r % 1073741824 = R := ⟨_, rfl⟩
  obtain ⟨S, hS⟩ : ∃ S, s % 1073741824 = S := ⟨_, rfl⟩
  have r1 : R ≤ 1073741823 := by omega
  have s1 : S ≤ 1073741823 := by omega
  have e2 : (r : Int) % 1073741824 = (R : Int) := by omega
  have e3 : (s : Int) % 1073741824 = (S : Int) := by omega
  have HA := Lib.hid hA
  clear hR hS hA
  go_enter Try.func9, Try.ntmps9
  go_wp2_with fail
  refine (qawake _).mono ?_
  rintro e w1 ⟨rfl, hB1⟩
  go_wp2_with fail
  refine (new_ok 5 R S w1 (by omega) (by omega) (by omega) (by omega) (by omega) (by omega)).mono ?_
  rintro e w2 ⟨rfl, hQ, hB2⟩
  have hB := hB1.trans (hB2.mono hB1.size)
  have hpb : w.heap.size ≤ w1.heap.size := hB1.size
  generalize w1.heap.size = b at hQ hpb
  clear hB1 hB2 e2 e3
  have HQ := Lib.hid hQ
  clear hQ
  go_wp2_with fail
  go_loopw [41] (fun c wr => ∃ (k : Nat) (s' : Int) (l : List Int), k ≤ len ∧ c = .int .i64 k ∧ QAt wr (b + 1) b R S s' l ∧ InvA R S k s' l ∧ l.length = 5 ∧ Below w.heap.size w wr)
    (fun c _ => len - (intOf c).toNat)
  case atStart => exact ⟨0, 0, List.replicate 5 0, by omega, rfl, HQ.out, InvA.zero 5 (by omega), rfl, hB⟩
  case round =>
    obtain ⟨k, s', l, hk, rfl, hQ, hI, hlN, hB'⟩ := hrel
    have hok := hI.ok (by omega) (by omega) (by omega) (by omega)
    by_cases hlt : k < len
    · obtain ⟨x, kd, ac, to, an, rfl, hx, hact, hkd, hac, hto, han⟩ := HA.out k hlt
      obtain ⟨q0, q1, q2, q3⟩ := hact.below hB' hx
      clear hact q0 q2
      have HL := Lib.hid hlN
      clear hlN
      go_wp2_with fail
      refine wp_region_still_tail 12 (by kernel_rfl) (by kernel_rfl) ?_
      change wpStill _ _ wr.drew (fun a' => wpList _ _ _ _ a' wr.drew) _ _
      simp only [List.take_succ_cons, List.take_zero, List.drop_succ_cons, List.drop_zero]
      have C := Lib.hid (add_any (b + 1) b R S s' ac an l wr.drew ⟨hQ.ptr, hQ.row⟩ hok (by omega))
      have p1 : Below w.heap.size w wr.drew := hB'.drew
      have g1 : wr.drew.cell? ⟨(x.add (k * 4)).block, (x.add (k * 4)).off + 1, none⟩ = some (.int .i8 ac) := q1
      have g3 : wr.drew.cell? ⟨(x.add (k * 4)).block, (x.add (k * 4)).off + 3, none⟩ = some (.int .i64 an) := q3
      clear hQ hB' q1 q3 hok
      generalize wr.drew = w3 at *
      iterate 12 still_step
      refine wpStill_nil ?_
      go_wp2_with fail
      refine C.out.mono ?_
      rintro e w4 ⟨rfl, hQ4, ht4⟩
      have hB4 := p1.trans (ht4.below p1.size (by omega) (by omega))
      have hL4 : (addL R S s' l ac an).length = 5 := by rw [length_addL]; exact HL.out
      have HI4 := Lib.hid (hI.add ac an)
      have HQ4 := Lib.hid hQ4
      have HL4 := Lib.hid hL4
      clear hQ4 hL4 C hI
      go_wp2
      go_roundw
      case rel => exact ⟨k + 1, _, _, by omega, by go_num, HQ4.out, HI4.out, HL4.out, hB4⟩
      case measure => simp [intOf]; omega
    · obtain ⟨x, hx⟩ : ∃ x, u % 5 = x := ⟨_, rfl⟩
      obtain ⟨y, hy⟩ : ∃ y, v % 5 = y := ⟨_, rfl⟩
      have x0 : 0 ≤ x ∧ x < 5 := by omega
      have y0 : 0 ≤ y ∧ y < 5 := by omega
      obtain ⟨hx0, hx1⟩ := x0
      obtain ⟨hy0, hy1⟩ := y0
      have hbd := hI.bnd (by omega)
      have hok2 : QOk R S (subS R s' l x n) (subL l x n) := (hbd.sub (by omega)).ok (by omega) (by omega) (by omega) (by rw [length_subL]; omega)
      have hok3 : QOk R S (moveS R s' l x y n) (moveL l x y n) := (hbd.move (by omega)).ok (by omega) (by omega) (by omega) (by rw [length_moveL]; omega)
      have hok4 : QOk R S (subS R (moveS R s' l x y n) (moveL l x y n) y n) (subL (moveL l x y n) y n) := ((hbd.move (by omega)).sub (by omega)).ok (by omega) (by omega) (by omega) (by rw [length_subL, length_moveL]; omega)
      have hok5 : QOk R S (addS R S s' l x n) (addL R S s' l x n) := (hI.add x n).ok (by omega) (by omega) (by omega) (by rw [length_addL]; omega)
      have hnn : ∀ z ∈ l, 0 ≤ z := fun z hz => (hI.l0 z hz).1
      have CB1 : Hid (∀ W, QAt W (b + 1) b R S s' l → Calls Try.prog 18 #[.pointer (some ⟨b + 1, 0, none⟩), .int .i64 x] W fun e w' => e = .returned (.int .i64 (bytesQ l x)) ∧ w' = W) := fun W hW => bytes_any (b + 1) b R S s' x l W hW (by omega)
      have CB2 : Hid (∀ W, QAt W (b + 1) b R S s' l → Calls Try.prog 18 #[.pointer (some ⟨b + 1, 0, none⟩), .int .i64 y] W fun e w' => e = .returned (.int .i64 (bytesQ l y)) ∧ w' = W) := fun W hW => bytes_any (b + 1) b R S s' y l W hW (by omega)
      have CS : Hid (∀ W, QAt W (b + 1) b R S s' l → Calls Try.prog 17 #[.pointer (some ⟨b + 1, 0, none⟩)] W fun e w' => e = .returned (.int .i64 s') ∧ w' = W) := fun W hW => shared_any (b + 1) b R S s' l W hW
      have C1 : Hid (∀ W, QAt W (b + 1) b R S s' l → Calls Try.prog 15 #[.pointer (some ⟨b + 1, 0, none⟩), .int .i64 x, .int .i64 n] W fun e w' => e = .returned (.bool (fitsB R S s' l x n)) ∧ QAt w' (b + 1) b R S (addS R S s' l x n) (addL R S s' l x n) ∧ Two (b + 1) b W w') := fun W hW => add_any (b + 1) b R S s' x n l W hW hok (by omega)
      have C2 : Hid (∀ W, QAt W (b + 1) b R S (addS R S s' l x n) (addL R S s' l x n) → Calls Try.prog 22 #[.pointer (some ⟨b + 1, 0, none⟩), .int .i64 x, .int .i64 n] W fun e w' => e = .returned (.bool (takesB (addL R S s' l x n) x n)) ∧ QAt w' (b + 1) b R S (subS R (addS R S s' l x n) (addL R S s' l x n) x n) (subL (addL R S s' l x n) x n) ∧ Two (b + 1) b W w') := fun W hW => sub_any (b + 1) b R S _ x n _ W hW hok5 hn.2 hn.1
      have C3 : Hid (∀ W, QAt W (b + 1) b R S s' l → Calls Try.prog 24 #[.pointer (some ⟨b + 1, 0, none⟩), .int .i64 x, .int .i64 y, .int .i64 n] W fun e w' => e = .returned (.bool (movesB l x y n)) ∧ QAt w' (b + 1) b R S (moveS R s' l x y n) (moveL l x y n) ∧ Two (b + 1) b W w') := fun W hW => move_any (b + 1) b R S s' x y n l W hW hok hok2 hn.2 hn.1
      have C4 : Hid (∀ W, QAt W (b + 1) b R S (moveS R s' l x y n) (moveL l x y n) → Calls Try.prog 24 #[.pointer (some ⟨b + 1, 0, none⟩), .int .i64 y, .int .i64 x, .int .i64 n] W fun e w' => e = .returned (.bool (movesB (moveL l x y n) y x n)) ∧ QAt w' (b + 1) b R S (moveS R (moveS R s' l x y n) (moveL l x y n) y x n) (moveL (moveL l x y n) y x n) ∧ Two (b + 1) b W w') := fun W hW => move_any (b + 1) b R S _ y x n _ W hW hok3 hok4 hn.2 hn.1
      have P1 : Hid (fitsB R S s' l x n = true → takesB (addL R S s' l x n) x n = true ∧ subL (addL R S s' l x n) x n = l ∧ subS R (addS R S s' l x n) (addL R S s' l x n) x n = s') := fun hf => add_sub hf hnn
      have P2 : Hid (movesB l x y n = true → movesB (moveL l x y n) y x n = true ∧ moveL (moveL l x y n) y x n = l ∧ moveS R (moveS R s' l x y n) (moveL l x y n) y x n = s') := fun hf => move_back hf hnn
      have P3 : Hid (fitsB R S s' l x n = false → addL R S s' l x n = l ∧ addS R S s' l x n = s') := fun hf => ⟨by unfold addL; rw [hf]; rfl, by unfold addS; rw [hf]; rfl⟩
      have P4 : Hid (movesB l x y n = false → moveL l x y n = l ∧ moveS R s' l x y n = s') := fun hf => ⟨by unfold moveL; rw [hf]; rfl, by unfold moveS; rw [hf]; rfl⟩
      have HQ1 := Lib.hid hQ
      have HT : Hid (∀ W W' : World, Below w.heap.size w W → Two (b + 1) b W W' → Below w.heap.size w W') := fun W W' h1 h2 => h1.trans (h2.below h1.size (by omega) (by omega))
      clear hQ hok hok2 hok3 hok4 hok5 hnn hbd hI hlN
      go_wp2_with fail
      refine (CB1.out _ HQ1.out).mono ?_
      rintro e w4 ⟨rfl, rfl⟩
      go_wp2_with fail
      refine (CS.out _ HQ1.out).mono ?_
      rintro e w4 ⟨rfl, rfl⟩
      go_wp2_with fail
      refine (CB2.out _ HQ1.out).mono ?_
      rintro e w4 ⟨rfl, rfl⟩
      go_wp2_with fail
      refine (C1.out _ HQ1.out).mono ?_
      rintro e w4 ⟨rfl, hq4, ht4⟩
      have hB4 := HT.out _ _ hB' ht4
      clear ht4 hB' HQ1
      cases hf : fitsB R S s' l x n
      case' false =>
        obtain ⟨e1, e2⟩ := P3.out hf
        rw [e1, e2] at hq4
        have HQ4 := Lib.hid hq4
        clear e1 e2 hq4 hf
        go_wp2_with fail
      case' true =>
        obtain ⟨e0, e1, e2⟩ := P1.out hf
        have HQ3 := Lib.hid hq4
        clear hq4 hf
        go_wp2_with fail
        refine (C2.out _ HQ3.out).mono ?_
        rintro e w5 ⟨rfl, hq4, ht5⟩
        rw [e0]
        rw [e1, e2] at hq4
        have HQ4 := Lib.hid hq4
        replace hB4 := HT.out _ _ hB4 ht5
        clear e0 e1 e2 hq4 ht5 HQ3
        go_wp2_with fail
      all_goals
        refine (C3.out _ HQ4.out).mono ?_
        rintro e w6 ⟨rfl, hq6, ht6⟩
        have hB6 := HT.out _ _ hB4 ht6
        clear ht6 hB4 HQ4
        cases hf : movesB l x y n
        case' false =>
          obtain ⟨e1, e2⟩ := P4.out hf
          rw [e1, e2] at hq6
          have HQ6 := Lib.hid hq6
          clear e1 e2 hq6 hf
          go_wp2_with fail
        case' true =>
          obtain ⟨e0, e1, e2⟩ := P2.out hf
          have HQ3 := Lib.hid hq6
          clear hq6 hf
          go_wp2_with fail
          refine (C4.out _ HQ3.out).mono ?_
          rintro e w7 ⟨rfl, hq6, ht7⟩
          rw [e0]
          rw [e1, e2] at hq6
          have HQ6 := Lib.hid hq6
          replace hB6 := HT.out _ _ hB6 ht7
          clear e0 e1 e2 hq6 ht7 HQ3
          go_wp2_with fail
        all_goals
          refine (CB1.out _ HQ6.out).mono ?_
          rintro e w8 ⟨rfl, rfl⟩
          go_wp2_with fail
          refine (CS.out _ HQ6.out).mono ?_
          rintro e w8 ⟨rfl, rfl⟩
          go_wp2_with fail
          refine (CB2.out _ HQ6.out).mono ?_
          rintro e w8 ⟨rfl, rfl⟩
          go_wp2
          go_ret
          exact ⟨rfl, hB6⟩

theorem walk_back (r s : Int) (a : Option Addr) (len cap : Nat) (u v n : Int) (w : World) (hr : (Lit.int .u32 r).wf = true) (hs : (Lit.int .u32 s).wf = true) (hA : Acts w a len ∧ len ≤ 9223372036854775807)
    (hu : (Lit.int .u8 u).wf = true) (hv : (Lit.int .u8 v).wf = true) (hn : (Lit.int .i64 n).wf = true) :
    Calls Try.prog 9 #[.int .u32 r, .int .u32 s, .slice a len cap, .int .u8 u, .int .u8 v, .int .i64 n] w fun e w' => e = .returned (.bool true) ∧ Below w.heap.size w w' := by
  obtain ⟨r0, r1⟩ := bounds_u32 hr
  obtain ⟨s0, s1⟩ := bounds_u32 hs
  obtain ⟨r, rfl⟩ := Int.eq_ofNat_of_zero_le r0
  obtain ⟨s, rfl⟩ := Int.eq_ofNat_of_zero_le s0
  rcases Nat.lt_or_ge 60 len with h | h
  · exact back_many r s a len cap u v n w h hA.2
  · exact back_few r s a len cap u v n w (bounds_u8 hu) (bounds_u8 hv) (bounds_i64 hn) (by omega) (by omega) h hA.1
end Go.Proofs.Ytflgpbjhjomogaa.C
