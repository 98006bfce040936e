/- The walk of same (chains): all lines are what the reference has. -/
import Derived.Test.YtgcfiiidhihkaaaChainI
namespace Go.Proofs.Ytgcfiiidhihkaaa.C
open Go.RowKit
set_option linter.unusedVariables false
/-- Where same stands: the boxed reference and the chains. -/
structure SK (w0 : World) (b base g cap m : Nat) (S : List Value) (Q : List (List Nat)) (pb b1 b2 : Nat) (w : World) : Prop where
  ck : CK w0 b base g cap m S Q w
  ch : CH.Chain w pb b1 b2 Q m
theorem SK.next {w0 : World} {b base g cap m pb b1 b2 : Nat} {S : List Value} {Q : List (List Nat)} {w w' : World} (h : SK w0 b base g cap m S Q pb b1 b2 w) (p : Below w.heap.size w w') : SK w0 b base g cap m S Q pb b1 b2 w' := ⟨h.ck.next p, h.ch.below p⟩
theorem SK.drewN {w0 : World} {b base g cap m pb b1 b2 : Nat} {S : List Value} {Q : List (List Nat)} {w : World} (h : SK w0 b base g cap m S Q pb b1 b2 w) (k : Nat) : SK w0 b base g cap m S Q pb b1 b2 (w.drewN k) := ⟨h.ck.next (below_drewN (Below.refl _ _) k), h.ch.drewN k⟩
theorem SK.cells {w0 : World} {b base g cap m pb b1 b2 n : Nat} {S : List Value} {Q : List (List Nat)} {w : World} (h : SK w0 b base g cap m S Q pb b1 b2 w) (hn : Q.length = n) : w.cell? ⟨b, 0, none⟩ = some (.slice (some ⟨g, 0, none⟩) n cap) ∧ w.cell? ⟨b, 1, none⟩ = some (.int .i64 (m : Nat)) := by
  subst hn
  exact ⟨h.ck.c0, h.ck.c1⟩
set_option maxRecDepth 100000 in
set_option maxHeartbeats 4000000 in
theorem c_same (pb b1 b2 base g cap m : Nat) (S : List Value) (Q : List (List Nat)) (w : World) (h : CR w base g cap S Q) (hC : CH.Chain w pb b1 b2 Q m) :
    Calls Try.prog 40 #[.pointer (some ⟨pb, 0, none⟩), cv g cap Q.length m] w fun e w' => e = .returned (.bool true) ∧ Below w.heap.size w w' := by
  obtain ⟨hQ, hm⟩ := hC.cut_length
  have hS : SK w w.heap.size base g cap m S Q pb b1 b2 (w.alloc (.cells #[.slice (some ⟨g, 0, none⟩) Q.length cap, .int .i64 (m : Nat)] 57)) := ⟨CK.new h, hC.below ((Below.refl _ _).alloc (Nat.le_refl _) _)⟩
  have hq4 : ∀ q ∈ Q, q.length ≤ 4096 := fun q hq => by
    obtain ⟨l, hl⟩ := List.getElem?_of_mem hq
    have := (hC.nodup hl).2
    omega
  have CLEN : Hid (∀ (l : Int) w', SK w w.heap.size base g cap m S Q pb b1 b2 w' → Calls Try.prog 29 #[.pointer (some ⟨pb, 0, none⟩), .int .i64 l] w' fun e w'' => e = .returned (.int .i64 (lenQ Q l : Nat)) ∧ w'' = w') := fun l w' hs => CH.c_len_any l hs.ch
  have CAT : Hid (∀ (l k : Int) w', SK w w.heap.size base g cap m S Q pb b1 b2 w' → Calls Try.prog 31 #[.pointer (some ⟨pb, 0, none⟩), .int .i64 l, .int .i64 k] w' fun e w'' => e = .returned (.tuple #[.int .i64 (max (atQ Q l k) 0), .bool (decide (0 ≤ atQ Q l k))]) ∧ SK w w.heap.size base g cap m S Q pb b1 b2 w'') := fun l k w' hs => (CH.c_at_any l k hs.ch).mono fun e w'' ⟨h1, q, h2⟩ => ⟨h1, h2 ▸ hs.drewN q⟩
  have CLI : Hid (∀ (p : Int) w', SK w w.heap.size base g cap m S Q pb b1 b2 w' → Calls Try.prog 30 #[.pointer (some ⟨pb, 0, none⟩), .int .i64 p] w' fun e w'' => e = .returned (.tuple #[.int .i64 (max (lineQ Q p) 0), .bool (decide (0 ≤ lineQ Q p))]) ∧ w'' = w') := fun p w' hs => CH.c_line_any p hs.ch
  have RAT : Hid (∀ (l k : Int) w', k ≤ 4611686018427387904 → SK w w.heap.size base g cap m S Q pb b1 b2 w' → Calls Try.prog 38 #[cv g cap Q.length m, .int .i64 l, .int .i64 k] w' fun e w'' => e = .returned (.int .i64 (atQ Q l k)) ∧ SK w w.heap.size base g cap m S Q pb b1 b2 w'') := fun l k w' hk hs => (rc_at base g cap m l k S Q w' hs.ck.row hQ hk hq4).mono fun e w'' ⟨h1, h2⟩ => ⟨h1, hs.next h2⟩
  have RLI : Hid (∀ (p : Int) w', SK w w.heap.size base g cap m S Q pb b1 b2 w' → Calls Try.prog 60 #[cv g cap Q.length m, .int .i64 p] w' fun e w'' => e = .returned (.int .i64 (lineQ Q p)) ∧ SK w w.heap.size base g cap m S Q pb b1 b2 w'') := fun p w' hs => (rc_line base g cap m p S Q w' hs.ck.row hQ hq4).mono fun e w'' ⟨h1, h2⟩ => ⟨h1, hs.next h2⟩
  have HS := Lib.hid hS
  have HQ4 := Lib.hid hq4
  clear h hC hS hq4
  generalize hn : Q.length = n at *
  have HN := Lib.hid hn
  clear hn
  go_enter Try.func40, Try.ntmps40
  go_upto_region 1 with (fail)
  generalize hwA : w.alloc (.cells #[.slice (some ⟨g, 0, none⟩) n cap, .int .i64 (m : Nat)] 57) = wA at *
  clear hwA
  generalize w.heap.size = b at *
  go_wp2_with fail
  go_loopw [5] (fun c wr => ∃ l : Int, -1 ≤ l ∧ l ≤ 13 ∧ c = .int .i64 l ∧ SK w b base g cap m S Q pb b1 b2 wr) (fun c _ => (14 - intOf c).toNat)
  case atStart => exact ⟨-1, by omega, by omega, rfl, HS.out⟩
  case round =>
    obtain ⟨l, hl0, hl1, rfl, hS⟩ := hrel
    have H1 := Lib.hid hS
    clear hS
    obtain ⟨M, hM⟩ : ∃ M : Int, (if (12 : Int) < (n : Int) then (12 : Int) else (n : Int)) = M := ⟨_, rfl⟩
    have hM12 : M ≤ 12 ∧ M ≤ n := by
      rw [← hM]; split <;> omega
    by_cases hlm : l ≤ M
    · have dl : decide (l ≤ M) = true := decide_eq_true hlm
      have hwl : IntKind.i64.wrap (l + 1) = l + 1 := IntWalk.i64_in _ (by omega)
      have hlen : lenQ Q l ≤ 4096 := by
        by_cases h0 : 0 ≤ l ∧ l < n
        · obtain ⟨l', rfl⟩ := Int.eq_ofNat_of_zero_le h0.1
          obtain ⟨q, hq⟩ : ∃ q, Q[l']? = some q := ⟨_, List.getElem?_eq_getElem (by have := HN.out; omega)⟩
          rw [lenQ_some hq]
          exact HQ4.out q (List.mem_of_getElem? hq)
        · rw [lenQ_out (by have := HN.out; omega)]
          omega
      have CL := Lib.hid (CLEN.out l)
      have CA := Lib.hid (CAT.out l)
      have RA := Lib.hid (RAT.out l)
      have HIF : Hid (0 ≤ l → l < n → ∃ (A : Option Addr) (c : Nat), wr.cell? ⟨g, l.toNat, none⟩ = some (.slice A (lenQ Q l) c)) := fun h0 h1 => by
        obtain ⟨l', rfl⟩ := Int.eq_ofNat_of_zero_le h0
        obtain ⟨q, hq⟩ : ∃ q, Q[l']? = some q := ⟨_, List.getElem?_eq_getElem (by have := HN.out; omega)⟩
        obtain ⟨A, c, hc, _⟩ := H1.out.ck.row.line hq
        exact ⟨A, c, by rw [lenQ_some hq]; exact hc⟩
      have HOUT : Hid (¬ (0 ≤ l ∧ l < n) → lenQ Q l = 0) := fun h => lenQ_out (by have := HN.out; omega)
      generalize lenQ Q l = ql at *
      clear CLEN CAT RAT
      obtain ⟨c0, c1⟩ := H1.out.cells HN.out
      go_upto_region 5 with (fail)
      clear dl hM
      go_cut [29] from 21 to 30 (fun s wc => s = .bool (decide (0 ≤ l ∧ l < (n : Int))) ∧ wr = wc)
      case first =>
        by_cases h0 : 0 ≤ l
        · by_cases h1 : l < (n : Int)
          · have hd : decide (0 ≤ l ∧ l < (n : Int)) = true := decide_eq_true ⟨h0, h1⟩
            go_wp2_with fail
            go_meet
            case rel => exact ⟨by rw [hd], rfl⟩
          · have hd : decide (0 ≤ l ∧ l < (n : Int)) = false := decide_eq_false (by omega)
            have hd1 : decide (l < (n : Int)) = false := decide_eq_false h1
            go_wp2_with fail
            go_meet
            case rel => exact ⟨by rw [hd], rfl⟩
        · have hd : decide (0 ≤ l ∧ l < (n : Int)) = false := decide_eq_false (by omega)
          have hd1 : decide (0 ≤ l) = false := decide_eq_false h0
          go_wp2_with fail
          go_meet
          case rel => exact ⟨by rw [hd], rfl⟩
      case rest =>
        obtain ⟨rfl, rfl⟩ := hcut
        generalize hb : decide (0 ≤ l ∧ l < (n : Int)) = bb at *
        have HB := Lib.hid hb
        clear hb
        go_upto_if 29 with (fail)
        go_cut [6] from 30 to 36 (fun s wc => s = .int .i64 (ql : Nat) ∧ wr = wc)
        case first =>
          cases bb with
          | true =>
            obtain ⟨h0, h1⟩ := of_decide_eq_true HB.out
            obtain ⟨A, c, hc⟩ := HIF.out h0 h1
            go_wp2_with fail
            go_meet
            case rel => exact ⟨rfl, rfl⟩
          | false =>
            obtain rfl : ql = 0 := HOUT.out (of_decide_eq_false HB.out)
            go_wp2_with fail
            go_meet
            case rel => exact ⟨rfl, rfl⟩
        case rest =>
          obtain ⟨rfl, rfl⟩ := hcut
          clear HIF HOUT HB
          go_wp2_with fail
          refine (CL.out _ H1.out).mono ?_
          rintro e w2 ⟨rfl, rfl⟩
          clear c0 c1
          go_wp2_with fail
          go_loopw [7] (fun c wq => ∃ k : Int, -1 ≤ k ∧ k ≤ (ql : Int) + 1 ∧ c = .int .i64 k ∧ SK w b base g cap m S Q pb b1 b2 wq) (fun c _ => ((ql : Int) + 1 - intOf c).toNat)
          case atStart => exact ⟨-1, by omega, by omega, rfl, H1.out⟩
          case round =>
            obtain ⟨k, hk0, hk1, rfl, hS⟩ := hrel
            have H2 := Lib.hid hS
            clear hS
            have CA1 := Lib.hid (CA.out k _ H2.out)
            have RA1 := Lib.hid (RA.out k)
            have hge := atQ_ge Q l k
            have TO := Lib.hid (told_yes (atQ Q l k))
            generalize atQ Q l k = at_ at *
            generalize max at_ 0 = mx at *
            generalize decide (0 ≤ at_) = dz at *
            by_cases hkq : k ≤ (ql : Int)
            · have dk : decide (k ≤ (ql : Int)) = true := decide_eq_true hkq
              go_wp2_with fail
              refine CA1.out.mono ?_
              rintro e w3 ⟨rfl, hS⟩
              obtain ⟨c0, c1⟩ := hS.cells HN.out
              have H3 := Lib.hid hS
              clear hS
              go_wp2_with fail
              refine (RA1.out _ (by omega) H3.out).mono ?_
              rintro e w4 ⟨rfl, hS⟩
              have H4 := Lib.hid hS
              clear hS c0 c1
              go_wp2_with fail
              refine (TO.out _).mono ?_
              rintro e w5 ⟨rfl, rfl⟩
              go_wp2_with fail
              go_roundw
              case rel => exact ⟨k + 1, by omega, by omega, by go_num, H4.out⟩
              case measure => simp [intOf]; omega
            · have dk : decide (k ≤ (ql : Int)) = false := decide_eq_false hkq
              go_wp2_with fail
              go_roundw
              case rel => exact ⟨l + 1, by omega, by omega, by go_num, H2.out⟩
              case measure => simp [intOf]; omega
    · have dl : decide (l ≤ M) = false := decide_eq_false hlm
      clear CLEN CAT RAT
      obtain ⟨c0, c1⟩ := H1.out.cells HN.out
      go_wp2_with fail
      go_loopw [10] (fun c wq => ∃ p : Int, -1 ≤ p ∧ p ≤ 13 ∧ c = .int .i64 p ∧ SK w b base g cap m S Q pb b1 b2 wq) (fun c _ => (14 - intOf c).toNat)
      case atStart => exact ⟨-1, by omega, by omega, rfl, H1.out⟩
      case round =>
        obtain ⟨p, hp0, hp1, rfl, hS⟩ := hrel
        have H2 := Lib.hid hS
        obtain ⟨c0, c1⟩ := hS.cells HN.out
        clear hS
        obtain ⟨M, hM⟩ : ∃ M : Int, (if (12 : Int) < (m : Int) then (12 : Int) else (m : Int)) = M := ⟨_, rfl⟩
        have hM12 : M ≤ 12 := by rw [← hM]; split <;> omega
        have CA1 := Lib.hid (CLI.out p _ H2.out)
        have RA1 := Lib.hid (RLI.out p)
        have hge := lineQ_ge Q p
        have TO := Lib.hid (told_yes (lineQ Q p))
        generalize lineQ Q p = at_ at *
        generalize max at_ 0 = mx at *
        generalize decide (0 ≤ at_) = dz at *
        by_cases hpm : p ≤ M
        · have dp : decide (p ≤ M) = true := decide_eq_true hpm
          have hwl : IntKind.i64.wrap (p + 1) = p + 1 := IntWalk.i64_in _ (by omega)
          go_wp2_with fail
          refine CA1.out.mono ?_
          rintro e w3 ⟨rfl, rfl⟩
          go_wp2_with fail
          refine (RA1.out _ H2.out).mono ?_
          rintro e w4 ⟨rfl, hS⟩
          have H4 := Lib.hid hS
          clear hS c0 c1
          go_wp2_with fail
          refine (TO.out _).mono ?_
          rintro e w5 ⟨rfl, rfl⟩
          go_wp2_with fail
          go_roundw
          case rel => exact ⟨p + 1, by omega, by omega, by go_num, H4.out⟩
          case measure => simp [intOf]; omega
        · have dp : decide (p ≤ M) = false := decide_eq_false hpm
          go_wp2_with fail
          go_ret
          exact ⟨rfl, H2.out.ck.below⟩
end Go.Proofs.Ytgcfiiidhihkaaa.C
