/- The walk of ChainPlays. -/
import Derived.Test.YtgcfiiidhihkaaaChainK
import Derived.Deep.QuietTactic
import Derived.BigQuiet
namespace Go.Proofs.Ytgcfiiidhihkaaa.C
open Go.RowKit
set_option linter.unusedVariables false
set_option maxRecDepth 100000 in
set_option maxHeartbeats 4000000 in
theorem cplays_main (n m : Nat) (a : Option Addr) (len cap : Nat) (w : World) (h : len ≤ 100) (h1 : 1 ≤ n) (h2 : n ≤ 129) (h3 : 1 ≤ m) (h4 : m ≤ 4096) (hA : Acts w a len) :
    Calls Try.prog 9 #[.int .i64 (n : Nat), .int .i64 (m : Nat), .slice a len cap] w fun e w' => e = .returned (.bool true) ∧ Below w.heap.size w w' := by
  have hgt : decide (100 < len) = false := by simp; omega
  have Ha := Lib.hid (CH.awake w)
  have HA := Lib.hid hA
  clear hA
  go_enter Try.func9, Try.ntmps9
  go_wp2_with fail
  refine Ha.out.mono ?_
  rintro e w1 ⟨rfl, hB1⟩
  have C1 := Lib.hid (CH.c_new n m w1 h1 h2 h3 h4)
  clear Ha
  go_wp2_with fail
  refine C1.out.mono ?_
  rintro e w2 ⟨pb, b1, b2, rfl, g1, g2, g3, hS, hB2⟩
  have hB := hB1.trans (hB2.mono hB1.size)
  have hs1 := hB1.size
  have CR := Lib.hid (rc_new n m w2 w2.heap.size (Nat.le_refl _) h1 h2)
  have hlt := hS.lt
  have HS := Lib.hid hS
  have HB := Lib.hid hB
  clear C1 hS hB1 hB2 hB
  go_wp2_with fail
  refine CR.out.mono ?_
  rintro e w3 ⟨g, cap3, rfl, hR, hB3⟩
  have hP : CP w w3.heap.size w2.heap.size g cap3 m (List.replicate n (Value.slice none 0 0)) (List.replicate n []) (List.replicate n []) pb b1 b2 (w3.alloc (.cells #[.slice (some ⟨g, 0, none⟩) n cap3, .int .i64 (m : Nat)] 57)) := by
    have hb4 : Below w3.heap.size w3 (w3.alloc (.cells #[.slice (some ⟨g, 0, none⟩) n cap3, .int .i64 (m : Nat)] 57)) := (Below.refl _ _).alloc (Nat.le_refl _) _
    have := hB3.size
    have := HB.out.size
    refine ⟨(HS.out.below hB3).below hb4, hR.below hb4, ?_, (HB.out.trans (hB3.mono HB.out.size)).trans (hb4.mono (by omega)), ⟨by omega, by omega, by omega⟩, ⟨hlt.1, hlt.2.1, hlt.2.2, hB3.size⟩⟩
    rw [Go.heap_alloc_new, List.length_replicate]
  have HP := Lib.hid hP
  clear hP HS hR hB3 HB CR hlt hs1 g1 g2 g3
  go_upto_region 7 with (fail)
  generalize w3.alloc (.cells #[.slice (some ⟨g, 0, none⟩) n cap3, .int .i64 (m : Nat)] 57) = w4 at *
  generalize w3.heap.size = bw at *
  generalize w2.heap.size = base at *
  go_wp2_with fail
  go_loopw [68] (fun c wr => ∃ (k : Nat) (Q : List (List Nat)) (S : List Value) (g cap : Nat), k ≤ len ∧ c = .int .i64 k ∧ CP w bw base g cap m S Q Q pb b1 b2 wr ∧ Q.length = n) (fun c _ => len - (intOf c).toNat)
  case atStart => exact ⟨0, _, _, _, _, by omega, rfl, HP.out, by simp⟩
  case round =>
    obtain ⟨k, Q, S, g, cap', hk, rfl, hP, hlN⟩ := hrel
    by_cases hlt : k < len
    · obtain ⟨x, kd, cl, nn, rfl, hx, hact, hkd, hcl, hn⟩ := HA.out k hlt
      obtain ⟨q0, q1, q2⟩ := hact.below hP.below hx
      obtain ⟨kd, rfl⟩ := Int.eq_ofNat_of_zero_le hkd.1
      have HL := Lib.hid hlN
      have hq4 : ∀ q ∈ Q, q.length ≤ 4096 := fun q hq => by
        obtain ⟨l, hl⟩ := List.getElem?_of_mem hq
        have := (hP.ch.nodup hl).2
        omega
      have HQ4 := Lib.hid hq4
      have CPU : Hid (∀ d, Calls Try.prog 28 #[.pointer (some ⟨pb, 0, none⟩), .int .i64 cl, .int .i64 nn] (wr.drewN d) fun e w' => e = .returned (.bool (pushOk Q m cl nn)) ∧ CP w bw base g cap' m S (pushQ Q m cl nn) Q pb b1 b2 w') := fun d => (CH.c_push_any cl nn (hP.drewN d).ch).mono fun e w' ⟨e1, e2, e3⟩ => ⟨e1, (hP.drewN d).two e2 e3⟩
      have CPO : Hid (∀ d, Calls Try.prog 36 #[.pointer (some ⟨pb, 0, none⟩), .int .i64 cl] (wr.drewN d) fun e w' => e = .returned (.tuple #[.int .i64 (max (atQ Q cl 0) 0), .bool (decide (0 ≤ atQ Q cl 0))]) ∧ CP w bw base g cap' m S (cutQ Q cl 0) Q pb b1 b2 w') := fun d => (CH.c_pop_any cl (hP.drewN d).ch).mono fun e w' ⟨e1, e2, e3⟩ => ⟨e1, (hP.drewN d).two e2 e3⟩
      have CCU : Hid (∀ d, Calls Try.prog 33 #[.pointer (some ⟨pb, 0, none⟩), .int .i64 cl, .int .i64 nn] (wr.drewN d) fun e w' => e = .returned (.tuple #[.int .i64 (max (atQ Q cl nn) 0), .bool (decide (0 ≤ atQ Q cl nn))]) ∧ CP w bw base g cap' m S (cutQ Q cl nn) Q pb b1 b2 w') := fun d => (CH.c_cut_any cl nn (hP.drewN d).ch).mono fun e w' ⟨e1, e2, e3⟩ => ⟨e1, (hP.drewN d).two e2 e3⟩
      have RPU : Hid (∀ Q1 w', CP w bw base g cap' m S Q1 Q pb b1 b2 w' → Calls Try.prog 35 #[cv g cap' n m, .int .i64 cl, .int .i64 nn] w' fun e w'' => ∃ g' cap'' S', e = .returned (.tuple #[cv g' cap'' n m, .bool (pushOk Q m cl nn)]) ∧ CR w'' base g' cap'' S' (pushQ Q m cl nn) ∧ CP w bw base g cap' m S Q1 Q pb b1 b2 w'') := fun Q1 w' hp => by
        have := rc_push base g cap' m cl nn S Q w' hp.row (by omega) h4 hq4
        rw [hlN] at this
        exact this.mono fun e w'' ⟨g', c', S', e1, e2, e3⟩ => ⟨g', c', S', e1, e2, hp.next e3⟩
      have RAT : Hid (∀ (z : Int) Q1 w', z ≤ 4611686018427387904 → CP w bw base g cap' m S Q1 Q pb b1 b2 w' → Calls Try.prog 38 #[cv g cap' n m, .int .i64 cl, .int .i64 z] w' fun e w'' => e = .returned (.int .i64 (atQ Q cl z)) ∧ CP w bw base g cap' m S Q1 Q pb b1 b2 w'') := fun z Q1 w' hz hp => by
        have := rc_at base g cap' m cl z S Q w' hp.row (by omega) hz hq4
        rw [hlN] at this
        exact this.mono fun e w'' ⟨e1, e3⟩ => ⟨e1, hp.next e3⟩
      have RCU : Hid (∀ (z : Int) Q1 w', z ≤ 4611686018427387904 → CP w bw base g cap' m S Q1 Q pb b1 b2 w' → Calls Try.prog 39 #[cv g cap' n m, .int .i64 cl, .int .i64 z] w' fun e w'' => ∃ g' cap'' S', e = .returned (cv g' cap'' n m) ∧ CR w'' base g' cap'' S' (cutQ Q cl z) ∧ CP w bw base g cap' m S Q1 Q pb b1 b2 w'') := fun z Q1 w' hz hp => by
        have := rc_cut base g cap' m cl z S Q w' hp.row (by omega) hz hq4
        rw [hlN] at this
        exact this.mono fun e w'' ⟨g', c', S', e1, e2, e3⟩ => ⟨g', c', S', e1, e2, hp.next e3⟩
      have hx4 : kd % 4 = 0 ∨ kd % 4 = 1 ∨ kd % 4 = 2 ∨ kd % 4 = 3 := by omega
      have hwc : IntKind.i64.wrap cl = cl := IntWalk.i64_in _ (by omega)
      have hwn : IntKind.i64.wrap nn = nn := IntWalk.i64_in _ (by omega)
      clear hact hq4 hP hlN HP
      rcases hx4 with h4' | h4' | h4' | h4'
      iterate 2
        · have e0 : (kd : Int) % 4 = ((kd % 4 : Nat) : Int) := by omega
          rw [h4'] at e0
          clear h4'
          go_wp2_with fail
          go_quiet (fail)
          go_wp2_with fail
          go_at_call 28
          refine (CPU.out _).mono ?_
          rintro e w5 ⟨rfl, hW⟩
          obtain ⟨c0, c1, f0, f1⟩ := hW.cells HL.out
          have RP := Lib.hid (RPU.out _ _ hW)
          clear CPU CPO CCU RPU RAT RCU q0 q1 q2 hW
          generalize pushOk Q m cl nn = ok at *
          go_wp2_with fail
          refine RP.out.mono ?_
          clear RP c0 c1 f0 f1
          rintro e w6 ⟨g6, cap6, S6, rfl, hR, hW⟩
          obtain ⟨c0, c1, f0, f1⟩ := hW.cells HL.out
          have H6 := Lib.hid hW
          have H7 := Lib.hid (hW.store hR)
          have HL7 : Hid ((pushQ Q m cl nn).length = n) := (length_pushQ Q m cl nn).trans HL.out
          rw [HL7.out] at H7
          clear hW hR
          have CS : Hid (∀ w', CP w bw base g6 cap6 m S6 (pushQ Q m cl nn) (pushQ Q m cl nn) pb b1 b2 w' → Calls Try.prog 40 #[.pointer (some ⟨pb, 0, none⟩), cv g6 cap6 n m] w' fun e w'' => e = .returned (.bool true) ∧ CP w bw base g6 cap6 m S6 (pushQ Q m cl nn) (pushQ Q m cl nn) pb b1 b2 w'') := fun w' hp => by
            have := c_same pb b1 b2 base g6 cap6 m S6 (pushQ Q m cl nn) w' hp.row hp.ch
            rw [HL7.out] at this
            exact this.mono fun e w'' ⟨e1, e2⟩ => ⟨e1, hp.next e2⟩
          generalize pushQ Q m cl nn = Q2 at *
          go_upto_region 28 with (fail)
          generalize (w6.setCell ⟨bw, 0, none⟩ (.slice (some ⟨g6, 0, none⟩) n cap6)).setCell ⟨bw, 1, none⟩ (.int .i64 (m : Nat)) = w7 at *
          obtain ⟨d0, d1, _, _⟩ := H7.out.cells HL7.out
          clear c0 c1 f0 f1 H6
          go_wp2_with fail
          refine (CS.out _ H7.out).mono ?_
          rintro e w8 ⟨rfl, hW⟩
          have H8 := Lib.hid hW
          clear hW d0 d1 H7
          go_wp2_with fail
          go_roundw
          case rel => exact ⟨k + 1, _, _, _, _, by omega, by go_num, H8.out, HL7.out⟩
          case measure => simp [intOf]; omega
      · have e0 : (kd : Int) % 4 = ((kd % 4 : Nat) : Int) := by omega
        rw [h4'] at e0
        clear h4'
        go_wp2_with fail
        go_quiet (fail)
        go_wp2_with fail
        go_at_call 36
        refine (CPO.out _).mono ?_
        rintro e w5 ⟨rfl, hW⟩
        obtain ⟨c0, c1, f0, f1⟩ := hW.cells HL.out
        have RA := Lib.hid (RAT.out (0) _ _ (by omega) hW)
        have RC := Lib.hid (fun w' => RCU.out (0) (cutQ Q cl 0) w' (by omega))
        have TO := Lib.hid (told_yes (atQ Q cl 0))
        clear CPU CPO CCU RPU RAT RCU q0 q1 q2 hW
        generalize atQ Q cl 0 = at_ at *
        generalize max at_ 0 = mx at *
        generalize decide (0 ≤ at_) = dz at *
        go_wp2_with fail
        refine RA.out.mono ?_
        clear RA c0 c1 f0 f1
        rintro e w51 ⟨rfl, hW⟩
        obtain ⟨c0, c1, f0, f1⟩ := hW.cells HL.out
        have RC1 := Lib.hid (RC.out _ hW)
        clear RC hW
        go_wp2_with fail
        refine (TO.out _).mono ?_
        rintro e w52 ⟨rfl, rfl⟩
        go_wp2_with fail
        refine RC1.out.mono ?_
        clear RC1 TO c0 c1 f0 f1
        rintro e w6 ⟨g6, cap6, S6, rfl, hR, hW⟩
        obtain ⟨c0, c1, f0, f1⟩ := hW.cells HL.out
        have H6 := Lib.hid hW
        have H7 := Lib.hid (hW.store hR)
        have HL7 : Hid ((cutQ Q cl 0).length = n) := (length_cutQ Q cl 0).trans HL.out
        rw [HL7.out] at H7
        clear hW hR
        have CS : Hid (∀ w', CP w bw base g6 cap6 m S6 (cutQ Q cl 0) (cutQ Q cl 0) pb b1 b2 w' → Calls Try.prog 40 #[.pointer (some ⟨pb, 0, none⟩), cv g6 cap6 n m] w' fun e w'' => e = .returned (.bool true) ∧ CP w bw base g6 cap6 m S6 (cutQ Q cl 0) (cutQ Q cl 0) pb b1 b2 w'') := fun w' hp => by
          have := c_same pb b1 b2 base g6 cap6 m S6 (cutQ Q cl 0) w' hp.row hp.ch
          rw [HL7.out] at this
          exact this.mono fun e w'' ⟨e1, e2⟩ => ⟨e1, hp.next e2⟩
        generalize cutQ Q cl 0 = Q2 at *
        go_upto_region 28 with (fail)
        generalize (w6.setCell ⟨bw, 0, none⟩ (.slice (some ⟨g6, 0, none⟩) n cap6)).setCell ⟨bw, 1, none⟩ (.int .i64 (m : Nat)) = w7 at *
        obtain ⟨d0, d1, _, _⟩ := H7.out.cells HL7.out
        clear c0 c1 f0 f1 H6
        go_wp2_with fail
        refine (CS.out _ H7.out).mono ?_
        rintro e w8 ⟨rfl, hW⟩
        have H8 := Lib.hid hW
        clear hW d0 d1 H7
        go_wp2_with fail
        go_roundw
        case rel => exact ⟨k + 1, _, _, _, _, by omega, by go_num, H8.out, HL7.out⟩
        case measure => simp [intOf]; omega
      · have e0 : (kd : Int) % 4 = ((kd % 4 : Nat) : Int) := by omega
        rw [h4'] at e0
        clear h4'
        go_wp2_with fail
        go_quiet (fail)
        go_wp2_with fail
        go_at_call 33
        refine (CCU.out _).mono ?_
        rintro e w5 ⟨rfl, hW⟩
        obtain ⟨c0, c1, f0, f1⟩ := hW.cells HL.out
        have RA := Lib.hid (RAT.out (nn) _ _ (by omega) hW)
        have RC := Lib.hid (fun w' => RCU.out (nn) (cutQ Q cl nn) w' (by omega))
        have TO := Lib.hid (told_yes (atQ Q cl nn))
        clear CPU CPO CCU RPU RAT RCU q0 q1 q2 hW
        generalize atQ Q cl nn = at_ at *
        generalize max at_ 0 = mx at *
        generalize decide (0 ≤ at_) = dz at *
        go_wp2_with fail
        refine RA.out.mono ?_
        clear RA c0 c1 f0 f1
        rintro e w51 ⟨rfl, hW⟩
        obtain ⟨c0, c1, f0, f1⟩ := hW.cells HL.out
        have RC1 := Lib.hid (RC.out _ hW)
        clear RC hW
        go_wp2_with fail
        refine (TO.out _).mono ?_
        rintro e w52 ⟨rfl, rfl⟩
        go_wp2_with fail
        refine RC1.out.mono ?_
        clear RC1 TO c0 c1 f0 f1
        rintro e w6 ⟨g6, cap6, S6, rfl, hR, hW⟩
        obtain ⟨c0, c1, f0, f1⟩ := hW.cells HL.out
        have H6 := Lib.hid hW
        have H7 := Lib.hid (hW.store hR)
        have HL7 : Hid ((cutQ Q cl nn).length = n) := (length_cutQ Q cl nn).trans HL.out
        rw [HL7.out] at H7
        clear hW hR
        have CS : Hid (∀ w', CP w bw base g6 cap6 m S6 (cutQ Q cl nn) (cutQ Q cl nn) pb b1 b2 w' → Calls Try.prog 40 #[.pointer (some ⟨pb, 0, none⟩), cv g6 cap6 n m] w' fun e w'' => e = .returned (.bool true) ∧ CP w bw base g6 cap6 m S6 (cutQ Q cl nn) (cutQ Q cl nn) pb b1 b2 w'') := fun w' hp => by
          have := c_same pb b1 b2 base g6 cap6 m S6 (cutQ Q cl nn) w' hp.row hp.ch
          rw [HL7.out] at this
          exact this.mono fun e w'' ⟨e1, e2⟩ => ⟨e1, hp.next e2⟩
        generalize cutQ Q cl nn = Q2 at *
        go_upto_region 28 with (fail)
        generalize (w6.setCell ⟨bw, 0, none⟩ (.slice (some ⟨g6, 0, none⟩) n cap6)).setCell ⟨bw, 1, none⟩ (.int .i64 (m : Nat)) = w7 at *
        obtain ⟨d0, d1, _, _⟩ := H7.out.cells HL7.out
        clear c0 c1 f0 f1 H6
        go_wp2_with fail
        refine (CS.out _ H7.out).mono ?_
        rintro e w8 ⟨rfl, hW⟩
        have H8 := Lib.hid hW
        clear hW d0 d1 H7
        go_wp2_with fail
        go_roundw
        case rel => exact ⟨k + 1, _, _, _, _, by omega, by go_num, H8.out, HL7.out⟩
        case measure => simp [intOf]; omega
    · have HP9 := Lib.hid hP.below
      clear hP
      go_wp2
      go_ret
      exact ⟨rfl, HP9.out⟩
theorem walk_cplays (n m : Int) (a : Option Addr) (len cap : Nat) (w : World) (hn : (Lit.int .i64 n).wf = true) (hm : (Lit.int .i64 m).wf = true) (hA : Acts w a len ∧ len ≤ 9223372036854775807) :
    Calls Try.prog 9 #[.int .i64 n, .int .i64 m, .slice a len cap] w fun e w' => e = .returned (.bool true) ∧ Below w.heap.size w w' := by
  rcases Nat.lt_or_ge 100 len with h | h
  · exact cplays_many n m a len cap w h hA.2
  · by_cases hc : 1 ≤ n ∧ n ≤ 129 ∧ 1 ≤ m ∧ m ≤ 4096
    · obtain ⟨n, rfl⟩ := Int.eq_ofNat_of_zero_le (show 0 ≤ n by omega)
      obtain ⟨m, rfl⟩ := Int.eq_ofNat_of_zero_le (show 0 ≤ m by omega)
      exact cplays_main n m a len cap w h (by omega) (by omega) (by omega) (by omega) hA.1
    · exact cplays_bad n m a len cap w h (by omega)
end Go.Proofs.Ytgcfiiidhihkaaa.C
