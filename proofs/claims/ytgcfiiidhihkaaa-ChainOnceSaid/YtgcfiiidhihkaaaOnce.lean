/- The walk of ChainOnce. -/
import Derived.Test.YtgcfiiidhihkaaaOnceP
import Derived.Test.YtgcfiiidhihkaaaAct
import Derived.Deep.QuietTactic
import Derived.BigQuiet
import Derived.Deep.RegionHeld
namespace Go.Proofs.Ytgcfiiidhihkaaa.C
open Go.RowKit
set_option linter.unusedVariables false
theorem once_many (a : Option Addr) (len cap : Nat) (w : World) (h : 100 < len) (hm : len ≤ 9223372036854775807) :
    Calls Try.prog 10 #[.slice a len cap] w fun e w' => e = .returned (.bool true) ∧ Below w.heap.size w w' := by
  have Ha := Lib.hid CH.awake
  go_enter Try.func10, Try.ntmps10
  go_wp2_with fail
  refine (Ha.out _).mono ?_
  rintro e w1 ⟨rfl, hB1⟩
  go_wp2_with fail
  refine (Ha.out _).mono ?_
  rintro e w2 ⟨rfl, hB2⟩
  go_wp2
  go_ret
  exact ⟨rfl, hB1.trans (hB2.mono hB1.size)⟩

set_option maxRecDepth 100000 in
set_option maxHeartbeats 2000000 in
theorem once_few (a : Option Addr) (len cap : Nat) (w : World) (h : len ≤ 100) (hA : Acts w a len) :
    Calls Try.prog 10 #[.slice a len cap] w fun e w' => e = .returned (.bool true) ∧ Below w.heap.size w w' := by
  have hgt : decide (100 < len) = false := by simp; omega
  have Ha := Lib.hid (CH.awake w)
  have HA := Lib.hid hA
  clear hA
  go_enter Try.func10, Try.ntmps10
  go_wp2_with fail
  refine Ha.out.mono ?_
  rintro e w1 ⟨rfl, hB1⟩
  have C1 : Hid (Calls Try.prog 27 #[.int .i64 4, .int .i64 20] w1 _) := CH.c_new 4 20 w1 (by omega) (by omega) (by omega) (by omega)
  clear Ha
  go_wp2_with fail
  refine C1.out.mono ?_
  rintro e w2 ⟨pb, b1, b2, rfl, g1, g2, g3, hS, hB2⟩
  have hB := hB1.trans (hB2.mono hB1.size)
  have hs1 := hB1.size
  have H0 := Lib.hid hS
  clear C1 hS hB1 hB2
  go_wp2_with fail
  go_loopw [33] (fun c wr => ∃ (k : Nat) (Q : List (List Nat)), k ≤ len ∧ c = .int .i64 k ∧ CH.Chain wr pb b1 b2 Q 20 ∧ Q.length = 4 ∧ Below w.heap.size w wr)
    (fun c _ => len - (intOf c).toNat)
  case atStart => exact ⟨0, _, by omega, rfl, H0.out, by simp, hB⟩
  case round =>
    obtain ⟨k, Q, hk, rfl, hQ, hlQ, hB'⟩ := hrel
    by_cases hlt : k < len
    · obtain ⟨x, kd, cl, n, rfl, hx, hact, hkd, hcl, hn⟩ := HA.out k hlt
      obtain ⟨q0, q1, q2⟩ := hact.below hB' hx
      clear hact
      have HQ := Lib.hid hQ
      have HL := Lib.hid hlQ
      obtain ⟨kd, rfl⟩ := Int.eq_ofNat_of_zero_le hkd.1
      have CPU : Hid (∀ m, Calls Try.prog 28 #[.pointer (some ⟨pb, 0, none⟩), .int .i64 (cl.tmod 5), .int .i64 (n.tmod 21)] (wr.drewN m) fun e w' => (∃ b, e = .returned (.bool b)) ∧ ∃ Q', CH.Chain w' pb b1 b2 Q' 20 ∧ Q'.length = 4 ∧ Two b1 b2 (wr.drewN m) w') := fun m => (CH.c_push_any _ _ (hQ.drewN m)).mono fun e w' ⟨h1, h2, h3⟩ => ⟨⟨_, h1⟩, _, h2, by rw [length_pushQ]; exact hlQ, h3⟩
      have CPO : Hid (∀ m, Calls Try.prog 36 #[.pointer (some ⟨pb, 0, none⟩), .int .i64 (cl.tmod 5)] (wr.drewN m) fun e w' => (∃ x o, e = .returned (.tuple #[.int .i64 x, .bool o])) ∧ ∃ Q', CH.Chain w' pb b1 b2 Q' 20 ∧ Q'.length = 4 ∧ Two b1 b2 (wr.drewN m) w') := fun m => (CH.c_pop_any _ (hQ.drewN m)).mono fun e w' ⟨h1, h2, h3⟩ => ⟨⟨_, _, h1⟩, _, h2, by rw [length_cutQ]; exact hlQ, h3⟩
      have CCU : Hid (∀ m, Calls Try.prog 33 #[.pointer (some ⟨pb, 0, none⟩), .int .i64 (cl.tmod 5), .int .i64 (n.tmod 21)] (wr.drewN m) fun e w' => (∃ x o, e = .returned (.tuple #[.int .i64 x, .bool o])) ∧ ∃ Q', CH.Chain w' pb b1 b2 Q' 20 ∧ Q'.length = 4 ∧ Two b1 b2 (wr.drewN m) w') := fun m => (CH.c_cut_any _ _ (hQ.drewN m)).mono fun e w' ⟨h1, h2, h3⟩ => ⟨⟨_, _, h1⟩, _, h2, by rw [length_cutQ]; exact hlQ, h3⟩
      have h4 : kd % 4 = 0 ∨ kd % 4 = 1 ∨ kd % 4 = 2 ∨ kd % 4 = 3 := by omega
      clear hQ hlQ
      rcases h4 with h4 | h4 | h4 | h4
      all_goals
        have e0 : (kd : Int) % 4 = ((kd % 4 : Nat) : Int) := by omega
        rw [h4] at e0
        clear h4
        go_wp2_with fail
        go_quiet (fail)
        go_wp2_with fail
        first
          | go_at_call 28; refine (CPU.out _).mono ?_; rintro e w3 ⟨⟨b, rfl⟩, Q', hQ, hlQ, hT⟩
          | go_at_call 36; refine (CPO.out _).mono ?_; rintro e w3 ⟨⟨px, b, rfl⟩, Q', hQ, hlQ, hT⟩
          | go_at_call 33; refine (CCU.out _).mono ?_; rintro e w3 ⟨⟨px, b, rfl⟩, Q', hQ, hlQ, hT⟩
        have hB3 := (below_drewN hB' _).trans (hT.below hB'.size (by omega) (by omega))
        clear hT CPU CPO CCU hB' q0 q1 q2 hcl hn
        have H3 := Lib.hid hQ
        have HL3 := Lib.hid hlQ
        have HSI : Hid (sumTo Q' 4 = inTo Q' 20) := by
          have := hQ.sum_in
          rwa [hlQ] at this
        clear hQ hlQ
        go_wp2_with fail
        go_loopw [8, 72] (fun s c wq => ∃ (l m : Nat), l ≤ 4 ∧ c = .int .i64 l ∧ s = .int .i64 (sumTo Q' l : Nat) ∧ sumTo Q' l ≤ l * 20 ∧ wq = w3.drewN m) (fun _ c _ => 4 - (intOf c).toNat)
        case atStart => exact ⟨0, 0, by omega, rfl, rfl, by simp [sumTo], rfl⟩
        case round =>
          obtain ⟨l, m, hl, rfl, rfl, hsl, rfl⟩ := hrel
          by_cases hl4 : l < 4
          · have dl : decide ((l : Int) < 4) = true := decide_eq_true (by omega)
            obtain ⟨q, hq⟩ : ∃ q, Q'[l]? = some q := ⟨_, List.getElem?_eq_getElem (by have := HL3.out; omega)⟩
            have hq20 := (H3.out.nodup hq).2
            have HSS := Lib.hid (sumTo_succ hq)
            have CL : Hid (∀ m, Calls Try.prog 29 #[.pointer (some ⟨pb, 0, none⟩), .int .i64 (l : Nat)] (w3.drewN m) fun e w' => e = .returned (.int .i64 (q.length : Nat)) ∧ w' = w3.drewN m) := fun m => CH.c_len (H3.out.drewN m) hq
            have CA : Hid (∀ (m i p : Nat), q[i]? = some p → Calls Try.prog 31 #[.pointer (some ⟨pb, 0, none⟩), .int .i64 (l : Nat), .int .i64 (i : Nat)] (w3.drewN m) fun e w' => e = .returned (.tuple #[.int .i64 (p : Nat), .bool true]) ∧ ∃ m', w' = (w3.drewN m).drewN m') := fun m i p hp => CH.c_at (H3.out.drewN m) hq hp
            have CI : Hid (∀ (m i p : Nat), q[i]? = some p → Calls Try.prog 30 #[.pointer (some ⟨pb, 0, none⟩), .int .i64 (p : Nat)] (w3.drewN m) fun e w' => e = .returned (.tuple #[.int .i64 (l : Nat), .bool true]) ∧ w' = w3.drewN m) := fun m i p hp => CH.c_line (H3.out.drewN m) hq (List.mem_of_getElem? hp)
            generalize hqn : q.length = ql at *
            generalize hs1' : sumTo Q' l = s1 at *
            have HQN := Lib.hid hqn
            have HS1 := Lib.hid hs1'
            clear hq hqn hs1'
            go_wp2_with fail
            refine (CL.out _).mono ?_
            rintro e w4 ⟨rfl, rfl⟩
            go_wp2_with fail
            refine (CL.out _).mono ?_
            rintro e w4 ⟨rfl, rfl⟩
            go_wp2_with fail
            go_loopw [83] (fun c wq => ∃ (i m : Nat), i ≤ ql ∧ c = .int .i64 i ∧ wq = w3.drewN m) (fun c _ => ql - (intOf c).toNat)
            case atStart => exact ⟨0, _, by omega, rfl, rfl⟩
            case round =>
              obtain ⟨i, m, hi, rfl, rfl⟩ := hrel
              by_cases hil : i < ql
              · obtain ⟨p, hp⟩ : ∃ p, q[i]? = some p := ⟨_, List.getElem?_eq_getElem (by have := HQN.out; omega)⟩
                have CA1 := Lib.hid (CA.out m i p hp)
                have CI1 : Hid (∀ m, Calls Try.prog 30 #[.pointer (some ⟨pb, 0, none⟩), .int .i64 (p : Nat)] (w3.drewN m) fun e w' => e = .returned (.tuple #[.int .i64 (l : Nat), .bool true]) ∧ w' = w3.drewN m) := fun m => CI.out m i p hp
                clear hp
                go_wp2_with fail
                refine CA1.out.mono ?_
                rintro e w5 ⟨rfl, m', rfl⟩
                try simp only [World.drewN_drewN]
                go_wp2_with fail
                refine (CI1.out _).mono ?_
                rintro e w5 ⟨rfl, rfl⟩
                go_wp2
                go_roundw
                case rel => exact ⟨i + 1, _, by omega, by go_num, rfl⟩
                case measure => simp [intOf]; omega
              · go_wp2
                go_roundw
                case rel => exact ⟨l + 1, _, by omega, by go_num, by rw [HSS.out]; go_num, by rw [HSS.out]; omega, rfl⟩
                case measure => simp [intOf]; omega
          · have dl : decide ((l : Int) < 4) = false := decide_eq_false (by omega)
            have hsi : sumTo Q' l = inTo Q' 20 := by
              rw [show l = 4 by omega]
              exact HSI.out
            clear hsl
            go_wp2_with fail
            go_loopw [9, 108] (fun s c wq => ∃ (p m : Nat), p ≤ 20 ∧ c = .int .i64 p ∧ s = .int .i64 (inTo Q' p : Nat) ∧ wq = w3.drewN m) (fun _ c _ => 20 - (intOf c).toNat)
            case atStart => exact ⟨0, _, by omega, rfl, rfl, rfl⟩
            case round =>
              obtain ⟨p, m, hp, rfl, rfl, rfl⟩ := hrel
              have hile := inTo_le Q' p
              have his := inTo_succ Q' p
              by_cases hp20 : p < 20
              · have dp : decide ((p : Int) < 20) = true := decide_eq_true (by omega)
                have CI : Hid (Calls Try.prog 30 #[.pointer (some ⟨pb, 0, none⟩), .int .i64 (p : Nat)] (w3.drewN m) _) := CH.c_line_any (p : Nat) (H3.out.drewN m)
                by_cases h0 : 0 ≤ lineQ Q' p
                · rw [if_pos h0] at his
                  rw [decide_eq_true h0] at CI
                  have HIS := Lib.hid his
                  generalize inTo Q' p = ip at *
                  generalize max (lineQ Q' p) 0 = lq at *
                  clear his h0 hsi
                  go_wp2_with fail
                  refine CI.out.mono ?_
                  rintro e w5 ⟨rfl, rfl⟩
                  go_wp2
                  go_roundw
                  case rel => exact ⟨p + 1, _, by omega, by go_num, by rw [HIS.out]; go_num, rfl⟩
                  case measure => simp [intOf]; omega
                · rw [if_neg h0] at his
                  rw [decide_eq_false h0] at CI
                  have HIS := Lib.hid his
                  generalize inTo Q' p = ip at *
                  generalize max (lineQ Q' p) 0 = lq at *
                  clear his h0 hsi
                  go_wp2_with fail
                  refine CI.out.mono ?_
                  rintro e w5 ⟨rfl, rfl⟩
                  go_wp2
                  go_roundw
                  case rel => exact ⟨p + 1, _, by omega, by go_num, by rw [HIS.out], rfl⟩
                  case measure => simp [intOf]; omega
              · obtain rfl : p = 20 := by omega
                have dp : decide (((20 : Nat) : Int) < 20) = false := by decide
                rw [hsi]
                have HR : Hid (Below w.heap.size w (w3.drewN m)) := below_drewN hB3 m
                clear his hsi
                generalize inTo Q' 20 = ip at *
                go_wp2
                go_roundw
                case rel => exact ⟨k + 1, Q', by omega, by go_num, H3.out.drewN _, HL3.out, HR.out⟩
                case measure => simp [intOf]; omega
    · go_wp2
      go_ret
      exact ⟨rfl, hB'⟩
theorem walk_once (a : Option Addr) (len cap : Nat) (w : World) (hA : Acts w a len ∧ len ≤ 9223372036854775807) :
    Calls Try.prog 10 #[.slice a len cap] w fun e w' => e = .returned (.bool true) ∧ Below w.heap.size w w' := by
  rcases Nat.lt_or_ge 100 len with h | h
  · exact once_many a len cap w h hA.2
  · exact once_few a len cap w h hA.1
end Go.Proofs.Ytgcfiiidhihkaaa.C
