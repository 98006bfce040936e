/- Whether two flows fall apart: apart. · The law TopVictim: what waits, plainly. · The law TopVictim: what waits behind each arrival, plainly. · The law TopVictim: a packet arrives, the victim's or another one's. -/
import Derived.Test.YtpanmfdbdgecaaaGreatV20
namespace Go.Proofs.YtpanmfdbdgecaaaGreat.C
open Go.RowKit
set_option linter.unusedVariables false
/-- The bytes of the key of a number's flow. -/
def kF (n : Nat) : Nat → Nat := keyF 10 1 n 7 9 0 0 0
/-- Two numbers' flows: are their buckets and bins unlike? -/
def apartB (K : Nat → Nat) (n nb nm : Nat) : Bool := decide (fallV K (kF 0) 0 nb ≠ fallV K (kF n) 0 nb ∧ fallV K (kF 0) 1 nm ≠ fallV K (kF n) 1 nm)
set_option maxRecDepth 100000 in
set_option maxHeartbeats 4000000 in
theorem apart_is (kv : Array Value) (K : Nat → Nat) (n nb nm : Nat) (w : World) (hk : Key16 kv K) (hKb : ∀ j, K j < 256) (hn : n < 256) (h1 : 1 ≤ nb ∧ nb ≤ 64) (h2 : 1 ≤ nm ∧ nm ≤ 64) :
    Calls Tryz.prog 10 #[.agg kv, .int .u8 (n : Nat), .int .i64 (nb : Nat), .int .i64 (nm : Nat)] w fun e w' => e = .returned (.bool (apartB K n nb nm)) ∧ Below w.heap.size w w' := by
  have f0 := flow_flc 10 1 0 7 9 0 0 0 ⟨by decide, by decide, by decide, by decide⟩ ⟨by decide, by decide, by decide, by decide⟩
  have f1 := flow_flc 10 1 n 7 9 0 0 0 ⟨by decide, by decide, hn, by decide⟩ ⟨by decide, by decide, by decide, by decide⟩
  have C0 : Hid (∀ w', Calls Tryz.prog 18 #[.int .u8 0] w' fun e w'' => e = .returned (.agg (flowX 10 1 0 7 9 0 0 0 1000 53)) ∧ Below w'.heap.size w' w'') := Lib.hid fun w' => flow_is 0 w'
  have C1 := Lib.hid (fun w' => flow_is n w')
  have CB0 := Lib.hid (fun w' => r_bucket kv _ K _ nb w' hk hKb f0 h1.1 h1.2)
  have CB1 := Lib.hid (fun w' => r_bucket kv _ K _ nb w' hk hKb f1 h1.1 h1.2)
  have CI0 := Lib.hid (fun w' => r_bins kv _ K _ nm w' hk hKb f0 h2.1 h2.2)
  have CI1 := Lib.hid (fun w' => r_bins kv _ K _ nm w' hk hKb f1 h2.1 h2.2)
  have HS0 := Lib.hid (And.intro f0.size f0.one)
  have HS1 := Lib.hid (And.intro f1.size f1.one)
  obtain ⟨b0, hb0⟩ : ∃ x, fallV K (keyF 10 1 0 7 9 0 0 0) 0 nb = x := ⟨_, rfl⟩
  obtain ⟨b1, hb1⟩ : ∃ x, fallV K (keyF 10 1 n 7 9 0 0 0) 0 nb = x := ⟨_, rfl⟩
  obtain ⟨i0, hi0⟩ : ∃ x, fallV K (keyF 10 1 0 7 9 0 0 0) 1 nm = x := ⟨_, rfl⟩
  obtain ⟨i1, hi1⟩ : ∃ x, fallV K (keyF 10 1 n 7 9 0 0 0) 1 nm = x := ⟨_, rfl⟩
  have hap : apartB K n nb nm = decide (b0 ≠ b1 ∧ i0 ≠ i1) := by
    unfold apartB kF
    rw [hb0, hb1, hi0, hi1]
  rw [hb0] at CB0
  rw [hb1] at CB1
  rw [hi0] at CI0
  rw [hi1] at CI1
  have HKS := Lib.hid (show (Tryz.prog.info? 22).map (·.size) = some kv.size by rw [hk.size]; exact key16_info)
  obtain ⟨Z, hZ⟩ : ∃ z, flZ = z := ⟨_, rfl⟩
  have hz := flq_zero
  have hzs : Z.size = 36 := by rw [← hZ]; rfl
  rw [hZ] at hz
  have HZ := Lib.hid hz
  have HZS := Lib.hid hzs
  rw [hap]
  clear hk hKb f0 f1 hb0 hb1 hi0 hi1 hap hz hzs hZ
  generalize flowX 10 1 0 7 9 0 0 0 1000 53 = X0 at *
  generalize flowX 10 1 n 7 9 0 0 0 1000 53 = X1 at *
  go_enter Tryz.func10, Tryz.ntmps10
  go_upto_region 1 with ((with_reducible refine arm_box 4 0 22 kv ?_ ?_); rfl; intro w1 HB1 HX1 HS1_)
  go_wp2_with fail
  refine (C0.out _).mono ?_
  rintro e w2 ⟨rfl, hB2⟩
  have HX2 := Lib.hid (keep_block hB2 HX1.out)
  have HB2 := Lib.hid (HB1.out.trans (hB2.mono HB1.out.size))
  clear hB2 HX1 HB1 HS1_
  go_wp2_with fail
  refine (C1.out _).mono ?_
  rintro e w3 ⟨rfl, hB3⟩
  have HX3 := Lib.hid (keep_block hB3 HX2.out)
  have HB3 := Lib.hid (HB2.out.trans (hB3.mono HB2.out.size))
  clear hB3 HX2 HB2
  have hfi0 : (Tryz.prog.info? 58).map (·.size) = some X0.size := by rw [HS0.out.1]; exact flow_info
  have hfi1 : (Tryz.prog.info? 58).map (·.size) = some X1.size := by rw [HS1.out.1]; exact flow_info
  have HF0 := Lib.hid hfi0
  have HF1 := Lib.hid hfi1
  clear hfi0 hfi1
  go_upto_region 2 with (first
    | ((with_reducible refine arm_alloc 9 58 Z 36 HZ.out ?_); intro w4 HB4 HX4 HS4)
    | ((with_reducible refine arm_alloc 10 58 Z 36 HZ.out ?_); intro w5 HB5 HX5 HS5)
    | ((with_reducible refine arm_store 9 11 58 _ _ _ (box_store (t := 58) (x := X0) (keep_block HB5.out HX4.out) HF0.out HS0.out.2 (HZS.out.trans HS0.out.1.symm)) ?_ ?_ ?_); rfl; rfl)
    | ((with_reducible refine arm_store 10 13 58 _ _ _ (box_store (t := 58) (x := X1) ((heap_setCells_other X0.toList 0 w5 w3.heap.size w4.heap.size (by have := HS4.out; omega)).trans HX5.out) HF1.out HS1.out.2 (HZS.out.trans HS1.out.1.symm)) ?_ ?_ ?_); rfl; rfl))
  have hne : w4.heap.size ≠ w3.heap.size := by have := HS4.out; omega
  have hq0 := box_whole (cs := X0) (keep_block HB5.out HX4.out) (HS0.out.1.trans HZS.out.symm)
  have hq0' := (heap_setCells_other X1.toList 0 _ w4.heap.size w3.heap.size hne.symm).trans hq0
  have hq1 := box_whole (cs := X1) ((heap_setCells_other X0.toList 0 w5 w3.heap.size w4.heap.size hne).trans HX5.out) (HS1.out.1.trans HZS.out.symm)
  have hb5 := below_setCells (b := w4.heap.size) (by have := HS4.out; omega) X1.toList 0 (below_setCells (b := w3.heap.size) (Nat.le_refl _) X0.toList 0 (HB4.out.trans (HB5.out.mono HB4.out.size)))
  have hk5 := keep_block hb5 HX3.out
  have hB5 := HB3.out.trans (hb5.mono HB3.out.size)
  clear hne HB4 HX4 HS4 HB5 HX5 HS5 hq0 hb5 HX3 HB3
  generalize (w5.setCells w3.heap.size 0 X0.toList).setCells w4.heap.size 0 X1.toList = w6 at *
  generalize w3.heap.size = a0 at *
  generalize w4.heap.size = a1 at *
  have HLD : Hid (∀ w', Below w6.heap.size w6 w' → (Instr.loadAt 22 (.pointer (some ⟨w.heap.size, 0, none⟩))).run Tryz.prog w' = .ok (.agg kv) w' ∧ (Instr.loadAt 58 (.pointer (some ⟨a0, 0, none⟩))).run Tryz.prog w' = .ok (.agg X0) w' ∧ (Instr.loadAt 58 (.pointer (some ⟨a1, 0, none⟩))).run Tryz.prog w' = .ok (.agg X1) w') := Lib.hid fun w' h =>
    ⟨box_load (t := 22) (keep_block h hk5) _ Tryz.underlying22 rfl HKS.out, box_load (t := 58) (keep_block h hq0') _ Tryz.underlying58 rfl HF0.out, box_load (t := 58) (keep_block h hq1) _ Tryz.underlying58 rfl HF1.out⟩
  have HB6 := Lib.hid hB5
  clear hq0' hq1 hk5 hB5 C0 C1
  by_cases hb : b0 = b1
  · have hd : decide ((b0 : Int) = (b1 : Int)) = true := decide_eq_true (by omega)
    have hne1 : ((b0 : Int) == (b1 : Int)) = true := by rw [hb]; exact beq_self_eq_true _
    have hbI : (b0 : Int) = (b1 : Int) := by omega
    have hbn : ((b0 : Int) != (b1 : Int)) = false := by rw [hbI]; exact bne_self_eq_false _
    have hres : decide (b0 ≠ b1 ∧ i0 ≠ i1) = false := decide_eq_false fun h => h.1 hb
    have HRES := Lib.hid hres
    clear hres
    have HBB := Lib.hid hb
    clear hb
    go_wp2_with fail
    refine wp_region_held_drew (S := Below w6.heap.size w6) (by kernel_rfl) (Below.refl _ _).drew (fun hHeld => ?_)
    refine wpAnyH_take (i := 0) (oi := ⟨some 14, _, _, _, _, _⟩) (v := .agg kv) rfl (by kernel_rfl) (by kernel_rfl) (by kernel_rfl) (fun _ _ _ h => h) (Or.inl ⟨by rfl, fun w hSw => exec_load rfl (HLD.out w hSw).1⟩) hHeld ?_
    try simp only [Act.put, List.setIfInBounds_toArray, List.set_cons_zero, List.set_cons_succ]
    refine wpAnyH_take (i := 1) (oi := ⟨some 15, _, _, _, _, _⟩) (v := .agg X0) rfl (by kernel_rfl) (by kernel_rfl) (by kernel_rfl) (fun _ _ _ h => h) (Or.inl ⟨by rfl, fun w hSw => exec_load rfl (HLD.out w hSw).2.1⟩) hHeld ?_
    try simp only [Act.put, List.setIfInBounds_toArray, List.set_cons_zero, List.set_cons_succ]
    refine wpAnyH_take (i := 2) (oi := ⟨some 16, _, _, _, _, _⟩) (v := ?_) rfl (by kernel_rfl) (by kernel_rfl) (by kernel_rfl) (fun _ _ _ h => h) (Or.inl ⟨by rfl, ?_⟩) hHeld ?_
    rotate_left
    · intro w hSw
      go_simp
      try with_reducible rfl
    try simp only [Act.put, List.setIfInBounds_toArray, List.set_cons_zero, List.set_cons_succ]
    refine wpAnyH_take (i := 4) (oi := ⟨some 18, _, _, _, _, _⟩) (v := .agg kv) rfl (by kernel_rfl) (by kernel_rfl) (by kernel_rfl) (fun _ _ _ h => h) (Or.inl ⟨by rfl, fun w hSw => exec_load rfl (HLD.out w hSw).1⟩) hHeld ?_
    try simp only [Act.put, List.setIfInBounds_toArray, List.set_cons_zero, List.set_cons_succ]
    refine wpAnyH_take (i := 5) (oi := ⟨some 19, _, _, _, _, _⟩) (v := .agg X1) rfl (by kernel_rfl) (by kernel_rfl) (by kernel_rfl) (fun _ _ _ h => h) (Or.inl ⟨by rfl, fun w hSw => exec_load rfl (HLD.out w hSw).2.2⟩) hHeld ?_
    try simp only [Act.put, List.setIfInBounds_toArray, List.set_cons_zero, List.set_cons_succ]
    refine wpAnyH_take (i := 6) (oi := ⟨some 20, _, _, _, _, _⟩) (v := ?_) rfl (by kernel_rfl) (by kernel_rfl) (by kernel_rfl) (fun _ _ _ h => h) (Or.inl ⟨by rfl, ?_⟩) hHeld ?_
    rotate_left
    · intro w hSw
      go_simp
      try with_reducible rfl
    try simp only [Act.put, List.setIfInBounds_toArray, List.set_cons_zero, List.set_cons_succ]
    refine wpAnyH_ready (rs := [3]) (by kernel_rfl) (by simp) ?_
    refine AllReadyH.cons rfl (fun K hK => ?_) AllReadyH.nil
    go_simp
    go_wp2_with (go_at_call 26; go_must (refine (CB0.out _).mono ?_; rintro e w3 ⟨rfl, hB3⟩))
    refine hK.out _ _ (hHeld.trans (hB3.mono hHeld.size)) (fun hHeld => ?_)
    clear hK K
    refine wpAnyH_ready (rs := [7]) (by kernel_rfl) (by simp) ?_
    refine AllReadyH.cons rfl (fun K hK => ?_) AllReadyH.nil
    go_simp
    go_wp2_with (go_at_call 26; go_must (refine (CB1.out _).mono ?_; rintro e w7 ⟨rfl, hB7⟩))
    refine hK.out _ _ (hHeld.trans (hB7.mono hHeld.size)) (fun hHeld => ?_)
    clear hK K
    refine wpAnyH_take (i := 8) (oi := ⟨some 22, _, _, _, _, _⟩) (v := ?_) rfl (by kernel_rfl) (by kernel_rfl) (by kernel_rfl) (fun _ _ _ h => h) (Or.inl ⟨by rfl, ?_⟩) hHeld ?_
    rotate_left
    · intro w hSw
      go_simp
      try with_reducible rfl
    try simp only [Act.put, List.setIfInBounds_toArray, List.set_cons_zero, List.set_cons_succ]
    refine wpAnyH_take (i := 9) (oi := ⟨some 23, _, _, _, _, _⟩) (v := ?_) rfl (by kernel_rfl) (by kernel_rfl) (by kernel_rfl) (fun _ _ _ h => h) (Or.inl ⟨by rfl, ?_⟩) hHeld ?_
    rotate_left
    · intro w hSw
      go_simp
      try with_reducible rfl
    try simp only [Act.put, List.setIfInBounds_toArray, List.set_cons_zero, List.set_cons_succ]
    refine wpAnyH_take (i := 10) (oi := ⟨some 24, _, _, _, _, _⟩) (v := undef) rfl (by kernel_rfl) (by kernel_rfl) (by kernel_rfl) (fun _ _ _ h => h) (Or.inr ⟨by rfl, rfl⟩) hHeld ?_
    try simp only [Act.put, List.setIfInBounds_toArray, List.set_cons_zero, List.set_cons_succ]
    refine wpAnyH_take (i := 11) (oi := ⟨some 25, _, _, _, _, _⟩) (v := undef) rfl (by kernel_rfl) (by kernel_rfl) (by kernel_rfl) (fun _ _ _ h => h) (Or.inr ⟨by rfl, rfl⟩) hHeld ?_
    try simp only [Act.put, List.setIfInBounds_toArray, List.set_cons_zero, List.set_cons_succ]
    refine wpAnyH_take (i := 12) (oi := ⟨some 26, _, _, _, _, _⟩) (v := undef) rfl (by kernel_rfl) (by kernel_rfl) (by kernel_rfl) (fun _ _ _ h => h) (Or.inr ⟨by rfl, rfl⟩) hHeld ?_
    try simp only [Act.put, List.setIfInBounds_toArray, List.set_cons_zero, List.set_cons_succ]
    refine wpAnyH_take (i := 13) (oi := ⟨some 27, _, _, _, _, _⟩) (v := undef) rfl (by kernel_rfl) (by kernel_rfl) (by kernel_rfl) (fun _ _ _ h => h) (Or.inr ⟨by rfl, rfl⟩) hHeld ?_
    try simp only [Act.put, List.setIfInBounds_toArray, List.set_cons_zero, List.set_cons_succ]
    refine wpAnyH_take (i := 14) (oi := ⟨some 28, _, _, _, _, _⟩) (v := undef) rfl (by kernel_rfl) (by kernel_rfl) (by kernel_rfl) (fun _ _ _ h => h) (Or.inr ⟨by rfl, rfl⟩) hHeld ?_
    try simp only [Act.put, List.setIfInBounds_toArray, List.set_cons_zero, List.set_cons_succ]
    refine wpAnyH_take (i := 15) (oi := ⟨some 29, _, _, _, _, _⟩) (v := undef) rfl (by kernel_rfl) (by kernel_rfl) (by kernel_rfl) (fun _ _ _ h => h) (Or.inr ⟨by rfl, rfl⟩) hHeld ?_
    try simp only [Act.put, List.setIfInBounds_toArray, List.set_cons_zero, List.set_cons_succ]
    refine wpAnyH_take (i := 16) (oi := ⟨some 30, _, _, _, _, _⟩) (v := undef) rfl (by kernel_rfl) (by kernel_rfl) (by kernel_rfl) (fun _ _ _ h => h) (Or.inr ⟨by rfl, rfl⟩) hHeld ?_
    try simp only [Act.put, List.setIfInBounds_toArray, List.set_cons_zero, List.set_cons_succ]
    refine wpAnyH_take (i := 17) (oi := ⟨some 31, _, _, _, _, _⟩) (v := undef) rfl (by kernel_rfl) (by kernel_rfl) (by kernel_rfl) (fun _ _ _ h => h) (Or.inr ⟨by rfl, rfl⟩) hHeld ?_
    try simp only [Act.put, List.setIfInBounds_toArray, List.set_cons_zero, List.set_cons_succ]
    refine wpAnyH_take (i := 18) (oi := ⟨some 32, _, _, _, _, _⟩) (v := undef) rfl (by kernel_rfl) (by kernel_rfl) (by kernel_rfl) (fun _ _ _ h => h) (Or.inr ⟨by rfl, rfl⟩) hHeld ?_
    try simp only [Act.put, List.setIfInBounds_toArray, List.set_cons_zero, List.set_cons_succ]
    refine wpAnyH_take (i := 19) (oi := ⟨some 33, _, _, _, _, _⟩) (v := undef) rfl (by kernel_rfl) (by kernel_rfl) (by kernel_rfl) (fun _ _ _ h => h) (Or.inr ⟨by rfl, rfl⟩) hHeld ?_
    try simp only [Act.put, List.setIfInBounds_toArray, List.set_cons_zero, List.set_cons_succ]
    refine wpAnyH_take (i := 20) (oi := ⟨some 34, _, _, _, _, _⟩) (v := undef) rfl (by kernel_rfl) (by kernel_rfl) (by kernel_rfl) (fun _ _ _ h => h) (Or.inr ⟨by rfl, rfl⟩) hHeld ?_
    try simp only [Act.put, List.setIfInBounds_toArray, List.set_cons_zero, List.set_cons_succ]
    refine wpAnyH_take (i := 21) (oi := ⟨some 35, _, _, _, _, _⟩) (v := undef) rfl (by kernel_rfl) (by kernel_rfl) (by kernel_rfl) (fun _ _ _ h => h) (Or.inr ⟨by rfl, rfl⟩) hHeld ?_
    try simp only [Act.put, List.setIfInBounds_toArray, List.set_cons_zero, List.set_cons_succ]
    refine wpAnyH_take (i := 22) (oi := ⟨some 36, _, _, _, _, _⟩) (v := undef) rfl (by kernel_rfl) (by kernel_rfl) (by kernel_rfl) (fun _ _ _ h => h) (Or.inr ⟨by rfl, rfl⟩) hHeld ?_
    try simp only [Act.put, List.setIfInBounds_toArray, List.set_cons_zero, List.set_cons_succ]
    refine wpAnyH_take (i := 23) (oi := ⟨some 37, _, _, _, _, _⟩) (v := ?_) rfl (by kernel_rfl) (by kernel_rfl) (by kernel_rfl) (fun _ _ _ h => h) (Or.inl ⟨by rfl, ?_⟩) hHeld ?_
    rotate_left
    · intro w hSw
      go_simp
      try with_reducible rfl
    try simp only [Act.put, List.setIfInBounds_toArray, List.set_cons_zero, List.set_cons_succ]
    refine wpAnyH_take (i := 24) (oi := ⟨some 8, _, _, _, _, _⟩) (v := ?_) rfl (by kernel_rfl) (by kernel_rfl) (by kernel_rfl) (fun _ _ _ h => h) (Or.inl ⟨by rfl, ?_⟩) hHeld ?_
    rotate_left
    · intro w hSw
      go_simp
      try with_reducible rfl
    try simp only [Act.put, List.setIfInBounds_toArray, List.set_cons_zero, List.set_cons_succ]
    refine wpAnyH_done (by kernel_rfl) ?_ _
    have HBF := Lib.hid (HB6.out.trans (hHeld.mono HB6.out.size))
    clear hHeld hB3 hB7
    go_wp2
    go_ret
    exact ⟨by rw [HRES.out]; rfl, HBF.out⟩
  · have hbI : ¬ ((b0 : Int) = (b1 : Int)) := by omega
    have hd : decide ((b0 : Int) = (b1 : Int)) = false := decide_eq_false hbI
    have hne1 : ((b0 : Int) == (b1 : Int)) = false := by simpa using hbI
    have hbn : ((b0 : Int) != (b1 : Int)) = true := by simpa using hbI
    have hbq : decide ((i0 : Int) = (i1 : Int)) = decide (i0 = i1) := decide_eq_decide.2 (by omega)
    have hres : decide (b0 ≠ b1 ∧ i0 ≠ i1) = !decide (i0 = i1) := by
      by_cases h : i0 = i1
      · rw [decide_eq_true h]; exact decide_eq_false fun h2 => h2.2 h
      · rw [decide_eq_false h]; exact decide_eq_true ⟨hb, h⟩
    have HRES := Lib.hid hres
    have HBQ := Lib.hid hbq
    clear hres hb hbq
    go_wp2_with fail
    refine wp_region_held_drew (S := Below w6.heap.size w6) (by kernel_rfl) (Below.refl _ _).drew (fun hHeld => ?_)
    refine wpAnyH_take (i := 0) (oi := ⟨some 14, _, _, _, _, _⟩) (v := .agg kv) rfl (by kernel_rfl) (by kernel_rfl) (by kernel_rfl) (fun _ _ _ h => h) (Or.inl ⟨by rfl, fun w hSw => exec_load rfl (HLD.out w hSw).1⟩) hHeld ?_
    try simp only [Act.put, List.setIfInBounds_toArray, List.set_cons_zero, List.set_cons_succ]
    refine wpAnyH_take (i := 1) (oi := ⟨some 15, _, _, _, _, _⟩) (v := .agg X0) rfl (by kernel_rfl) (by kernel_rfl) (by kernel_rfl) (fun _ _ _ h => h) (Or.inl ⟨by rfl, fun w hSw => exec_load rfl (HLD.out w hSw).2.1⟩) hHeld ?_
    try simp only [Act.put, List.setIfInBounds_toArray, List.set_cons_zero, List.set_cons_succ]
    refine wpAnyH_take (i := 2) (oi := ⟨some 16, _, _, _, _, _⟩) (v := ?_) rfl (by kernel_rfl) (by kernel_rfl) (by kernel_rfl) (fun _ _ _ h => h) (Or.inl ⟨by rfl, ?_⟩) hHeld ?_
    rotate_left
    · intro w hSw
      go_simp
      try with_reducible rfl
    try simp only [Act.put, List.setIfInBounds_toArray, List.set_cons_zero, List.set_cons_succ]
    refine wpAnyH_take (i := 4) (oi := ⟨some 18, _, _, _, _, _⟩) (v := .agg kv) rfl (by kernel_rfl) (by kernel_rfl) (by kernel_rfl) (fun _ _ _ h => h) (Or.inl ⟨by rfl, fun w hSw => exec_load rfl (HLD.out w hSw).1⟩) hHeld ?_
    try simp only [Act.put, List.setIfInBounds_toArray, List.set_cons_zero, List.set_cons_succ]
    refine wpAnyH_take (i := 5) (oi := ⟨some 19, _, _, _, _, _⟩) (v := .agg X1) rfl (by kernel_rfl) (by kernel_rfl) (by kernel_rfl) (fun _ _ _ h => h) (Or.inl ⟨by rfl, fun w hSw => exec_load rfl (HLD.out w hSw).2.2⟩) hHeld ?_
    try simp only [Act.put, List.setIfInBounds_toArray, List.set_cons_zero, List.set_cons_succ]
    refine wpAnyH_take (i := 6) (oi := ⟨some 20, _, _, _, _, _⟩) (v := ?_) rfl (by kernel_rfl) (by kernel_rfl) (by kernel_rfl) (fun _ _ _ h => h) (Or.inl ⟨by rfl, ?_⟩) hHeld ?_
    rotate_left
    · intro w hSw
      go_simp
      try with_reducible rfl
    try simp only [Act.put, List.setIfInBounds_toArray, List.set_cons_zero, List.set_cons_succ]
    refine wpAnyH_ready (rs := [3]) (by kernel_rfl) (by simp) ?_
    refine AllReadyH.cons rfl (fun K hK => ?_) AllReadyH.nil
    go_simp
    go_wp2_with (go_at_call 26; go_must (refine (CB0.out _).mono ?_; rintro e w3 ⟨rfl, hB3⟩))
    refine hK.out _ _ (hHeld.trans (hB3.mono hHeld.size)) (fun hHeld => ?_)
    clear hK K
    refine wpAnyH_ready (rs := [7]) (by kernel_rfl) (by simp) ?_
    refine AllReadyH.cons rfl (fun K hK => ?_) AllReadyH.nil
    go_simp
    go_wp2_with (go_at_call 26; go_must (refine (CB1.out _).mono ?_; rintro e w7 ⟨rfl, hB7⟩))
    refine hK.out _ _ (hHeld.trans (hB7.mono hHeld.size)) (fun hHeld => ?_)
    clear hK K
    refine wpAnyH_take (i := 8) (oi := ⟨some 22, _, _, _, _, _⟩) (v := ?_) rfl (by kernel_rfl) (by kernel_rfl) (by kernel_rfl) (fun _ _ _ h => h) (Or.inl ⟨by rfl, ?_⟩) hHeld ?_
    rotate_left
    · intro w hSw
      go_simp
      try with_reducible rfl
    try simp only [Act.put, List.setIfInBounds_toArray, List.set_cons_zero, List.set_cons_succ]
    refine wpAnyH_take (i := 9) (oi := ⟨some 23, _, _, _, _, _⟩) (v := ?_) rfl (by kernel_rfl) (by kernel_rfl) (by kernel_rfl) (fun _ _ _ h => h) (Or.inl ⟨by rfl, ?_⟩) hHeld ?_
    rotate_left
    · intro w hSw
      go_simp
      try with_reducible rfl
    try simp only [Act.put, List.setIfInBounds_toArray, List.set_cons_zero, List.set_cons_succ]
    refine wpAnyH_take (i := 10) (oi := ⟨some 24, _, _, _, _, _⟩) (v := .agg kv) rfl (by kernel_rfl) (by kernel_rfl) (by kernel_rfl) (fun _ _ _ h => h) (Or.inl ⟨by rfl, fun w hSw => exec_load rfl (HLD.out w hSw).1⟩) hHeld ?_
    try simp only [Act.put, List.setIfInBounds_toArray, List.set_cons_zero, List.set_cons_succ]
    refine wpAnyH_take (i := 11) (oi := ⟨some 25, _, _, _, _, _⟩) (v := .agg X0) rfl (by kernel_rfl) (by kernel_rfl) (by kernel_rfl) (fun _ _ _ h => h) (Or.inl ⟨by rfl, fun w hSw => exec_load rfl (HLD.out w hSw).2.1⟩) hHeld ?_
    try simp only [Act.put, List.setIfInBounds_toArray, List.set_cons_zero, List.set_cons_succ]
    refine wpAnyH_take (i := 12) (oi := ⟨some 26, _, _, _, _, _⟩) (v := ?_) rfl (by kernel_rfl) (by kernel_rfl) (by kernel_rfl) (fun _ _ _ h => h) (Or.inl ⟨by rfl, ?_⟩) hHeld ?_
    rotate_left
    · intro w hSw
      go_simp
      try with_reducible rfl
    try simp only [Act.put, List.setIfInBounds_toArray, List.set_cons_zero, List.set_cons_succ]
    refine wpAnyH_take (i := 16) (oi := ⟨some 30, _, _, _, _, _⟩) (v := .agg kv) rfl (by kernel_rfl) (by kernel_rfl) (by kernel_rfl) (fun _ _ _ h => h) (Or.inl ⟨by rfl, fun w hSw => exec_load rfl (HLD.out w hSw).1⟩) hHeld ?_
    try simp only [Act.put, List.setIfInBounds_toArray, List.set_cons_zero, List.set_cons_succ]
    refine wpAnyH_take (i := 17) (oi := ⟨some 31, _, _, _, _, _⟩) (v := .agg X1) rfl (by kernel_rfl) (by kernel_rfl) (by kernel_rfl) (fun _ _ _ h => h) (Or.inl ⟨by rfl, fun w hSw => exec_load rfl (HLD.out w hSw).2.2⟩) hHeld ?_
    try simp only [Act.put, List.setIfInBounds_toArray, List.set_cons_zero, List.set_cons_succ]
    refine wpAnyH_take (i := 18) (oi := ⟨some 32, _, _, _, _, _⟩) (v := ?_) rfl (by kernel_rfl) (by kernel_rfl) (by kernel_rfl) (fun _ _ _ h => h) (Or.inl ⟨by rfl, ?_⟩) hHeld ?_
    rotate_left
    · intro w hSw
      go_simp
      try with_reducible rfl
    try simp only [Act.put, List.setIfInBounds_toArray, List.set_cons_zero, List.set_cons_succ]
    refine wpAnyH_ready (rs := [13]) (by kernel_rfl) (by simp) ?_
    refine AllReadyH.cons rfl (fun K hK => ?_) AllReadyH.nil
    go_simp
    go_wp2_with (go_at_call 27; go_must (refine (CI0.out _).mono ?_; rintro e w13 ⟨g0, c0, rfl, hg0, hB13⟩))
    refine hK.out _ _ (hHeld.trans (hB13.mono hHeld.size)) (fun hHeld => ?_)
    clear hK K
    refine wpAnyH_take (i := 14) (oi := ⟨some 28, _, _, _, _, _⟩) (v := ?_) rfl (by kernel_rfl) (by kernel_rfl) (by kernel_rfl) (fun _ _ _ h => h) (Or.inl ⟨by rfl, ?_⟩) hHeld ?_
    rotate_left
    · intro w hSw
      go_simp
      try with_reducible rfl
    try simp only [Act.put, List.setIfInBounds_toArray, List.set_cons_zero, List.set_cons_succ]
    refine wpAnyH_ready (rs := [15, 19]) (by kernel_rfl) (by simp) ?_
    refine AllReadyH.cons rfl (fun K hK => ?ordA) (AllReadyH.cons rfl (fun K hK => ?ordB) AllReadyH.nil)
    case' ordA =>
      go_simp
      refine hK.out _ _ (hHeld) (fun hHeld => ?_)
      clear hK K
      refine wpAnyH_ready (rs := [19]) (by kernel_rfl) (by simp) ?_
      refine AllReadyH.cons rfl (fun K hK => ?_) AllReadyH.nil
      go_simp
      go_wp2_with (go_at_call 27; go_must (refine (CI1.out _).mono ?_; rintro e w19 ⟨g1, c1, rfl, hg1, hB19⟩))
      refine hK.out _ _ (hHeld.trans (hB19.mono hHeld.size)) (fun hHeld => ?_)
      clear hK K
      refine wpAnyH_take (i := 20) (oi := ⟨some 34, _, _, _, _, _⟩) (v := ?_) rfl (by kernel_rfl) (by kernel_rfl) (by kernel_rfl) (fun _ _ _ h => h) (Or.inl ⟨by rfl, ?_⟩) hHeld ?_
      rotate_left
      · intro w hSw
        go_simp
        try with_reducible rfl
      try simp only [Act.put, List.setIfInBounds_toArray, List.set_cons_zero, List.set_cons_succ]
      refine wpAnyH_ready (rs := [21]) (by kernel_rfl) (by simp) ?_
      refine AllReadyH.cons rfl (fun K hK => ?_) AllReadyH.nil
      go_simp
      refine hK.out _ _ (hHeld) (fun hHeld => ?_)
      clear hK K
      refine wpAnyH_take (i := 22) (oi := ⟨some 36, _, _, _, _, _⟩) (v := ?_) rfl (by kernel_rfl) (by kernel_rfl) (by kernel_rfl) (fun _ _ _ h => h) (Or.inl ⟨by rfl, ?_⟩) hHeld ?_
      rotate_left
      · intro w hSw
        go_simp
        try with_reducible rfl
      try simp only [Act.put, List.setIfInBounds_toArray, List.set_cons_zero, List.set_cons_succ]
      refine wpAnyH_take (i := 23) (oi := ⟨some 37, _, _, _, _, _⟩) (v := ?_) rfl (by kernel_rfl) (by kernel_rfl) (by kernel_rfl) (fun _ _ _ h => h) (Or.inl ⟨by rfl, ?_⟩) hHeld ?_
      rotate_left
      · intro w hSw
        go_simp
        try with_reducible rfl
      try simp only [Act.put, List.setIfInBounds_toArray, List.set_cons_zero, List.set_cons_succ]
      refine wpAnyH_take (i := 24) (oi := ⟨some 8, _, _, _, _, _⟩) (v := ?_) rfl (by kernel_rfl) (by kernel_rfl) (by kernel_rfl) (fun _ _ _ h => h) (Or.inl ⟨by rfl, ?_⟩) hHeld ?_
      rotate_left
      · intro w hSw
        go_simp
        try with_reducible rfl
      try simp only [Act.put, List.setIfInBounds_toArray, List.set_cons_zero, List.set_cons_succ]
      refine wpAnyH_done (by kernel_rfl) ?_ _
    case' ordB =>
      go_simp
      go_wp2_with (go_at_call 27; go_must (refine (CI1.out _).mono ?_; rintro e w19 ⟨g1, c1, rfl, hg1, hB19⟩))
      refine hK.out _ _ (hHeld.trans (hB19.mono hHeld.size)) (fun hHeld => ?_)
      clear hK K
      refine wpAnyH_take (i := 20) (oi := ⟨some 34, _, _, _, _, _⟩) (v := ?_) rfl (by kernel_rfl) (by kernel_rfl) (by kernel_rfl) (fun _ _ _ h => h) (Or.inl ⟨by rfl, ?_⟩) hHeld ?_
      rotate_left
      · intro w hSw
        go_simp
        try with_reducible rfl
      try simp only [Act.put, List.setIfInBounds_toArray, List.set_cons_zero, List.set_cons_succ]
      have hg0' : w19.cell? ⟨g0, 0, none⟩ = some (.int .i64 (i0 : Nat)) := by rw [hB19.cell (p := ⟨g0, 0, none⟩) (World.block_lt_of_cell? _ _ hg0)]; exact hg0
      refine wpAnyH_ready (rs := [15, 21]) (by kernel_rfl) (by simp) ?_
      refine AllReadyH.cons rfl (fun K hK => ?ordB1) (AllReadyH.cons rfl (fun K hK => ?ordB2) AllReadyH.nil)
      case' ordB1 =>
        go_simp
        refine hK.out _ _ (hHeld) (fun hHeld => ?_)
        clear hK K
        refine wpAnyH_ready (rs := [21]) (by kernel_rfl) (by simp) ?_
        refine AllReadyH.cons rfl (fun K hK => ?_) AllReadyH.nil
        go_simp
        refine hK.out _ _ (hHeld) (fun hHeld => ?_)
        clear hK K
        refine wpAnyH_take (i := 22) (oi := ⟨some 36, _, _, _, _, _⟩) (v := ?_) rfl (by kernel_rfl) (by kernel_rfl) (by kernel_rfl) (fun _ _ _ h => h) (Or.inl ⟨by rfl, ?_⟩) hHeld ?_
        rotate_left
        · intro w hSw
          go_simp
          try with_reducible rfl
        try simp only [Act.put, List.setIfInBounds_toArray, List.set_cons_zero, List.set_cons_succ]
        refine wpAnyH_take (i := 23) (oi := ⟨some 37, _, _, _, _, _⟩) (v := ?_) rfl (by kernel_rfl) (by kernel_rfl) (by kernel_rfl) (fun _ _ _ h => h) (Or.inl ⟨by rfl, ?_⟩) hHeld ?_
        rotate_left
        · intro w hSw
          go_simp
          try with_reducible rfl
        try simp only [Act.put, List.setIfInBounds_toArray, List.set_cons_zero, List.set_cons_succ]
        refine wpAnyH_take (i := 24) (oi := ⟨some 8, _, _, _, _, _⟩) (v := ?_) rfl (by kernel_rfl) (by kernel_rfl) (by kernel_rfl) (fun _ _ _ h => h) (Or.inl ⟨by rfl, ?_⟩) hHeld ?_
        rotate_left
        · intro w hSw
          go_simp
          try with_reducible rfl
        try simp only [Act.put, List.setIfInBounds_toArray, List.set_cons_zero, List.set_cons_succ]
        refine wpAnyH_done (by kernel_rfl) ?_ _
      case' ordB2 =>
        go_simp
        refine hK.out _ _ (hHeld) (fun hHeld => ?_)
        clear hK K
        refine wpAnyH_ready (rs := [15]) (by kernel_rfl) (by simp) ?_
        refine AllReadyH.cons rfl (fun K hK => ?_) AllReadyH.nil
        go_simp
        refine hK.out _ _ (hHeld) (fun hHeld => ?_)
        clear hK K
        refine wpAnyH_take (i := 22) (oi := ⟨some 36, _, _, _, _, _⟩) (v := ?_) rfl (by kernel_rfl) (by kernel_rfl) (by kernel_rfl) (fun _ _ _ h => h) (Or.inl ⟨by rfl, ?_⟩) hHeld ?_
        rotate_left
        · intro w hSw
          go_simp
          try with_reducible rfl
        try simp only [Act.put, List.setIfInBounds_toArray, List.set_cons_zero, List.set_cons_succ]
        refine wpAnyH_take (i := 23) (oi := ⟨some 37, _, _, _, _, _⟩) (v := ?_) rfl (by kernel_rfl) (by kernel_rfl) (by kernel_rfl) (fun _ _ _ h => h) (Or.inl ⟨by rfl, ?_⟩) hHeld ?_
        rotate_left
        · intro w hSw
          go_simp
          try with_reducible rfl
        try simp only [Act.put, List.setIfInBounds_toArray, List.set_cons_zero, List.set_cons_succ]
        refine wpAnyH_take (i := 24) (oi := ⟨some 8, _, _, _, _, _⟩) (v := ?_) rfl (by kernel_rfl) (by kernel_rfl) (by kernel_rfl) (fun _ _ _ h => h) (Or.inl ⟨by rfl, ?_⟩) hHeld ?_
        rotate_left
        · intro w hSw
          go_simp
          try with_reducible rfl
        try simp only [Act.put, List.setIfInBounds_toArray, List.set_cons_zero, List.set_cons_succ]
        refine wpAnyH_done (by kernel_rfl) ?_ _
    all_goals
        have HBF := Lib.hid (HB6.out.trans (hHeld.mono HB6.out.size))
        have hbe2 := HBQ.out
        have hbe3 : ((i0 : Int) == (i1 : Int)) = decide (i0 = i1) := hbe2
        have hbe4 : ((i0 : Int) != (i1 : Int)) = !decide (i0 = i1) := by rw [bne, hbe3]
        clear hHeld
        go_wp2
        go_ret
        refine ⟨?_, HBF.out⟩
        rw [HRES.out]
        first | rfl | (simp only [hbe4]; rfl) | (show Ending.returned (Value.bool _) = _; congr 2)
end Go.Proofs.YtpanmfdbdgecaaaGreat.C

namespace Go.Proofs.YtpanmfdbdgecaaaGreat.C
open Go.RowKit
set_option linter.unusedVariables false
/-- The quota's numbers behind so many joinings and leavings. -/
structure InvT (m : Int) (k : Nat) (s : Int) (l : List Int) : Prop where
  s0 : -((k : Int) * 9216) ≤ s
  s1 : s ≤ m
  len : l.length ≤ 129
  l0 : ∀ x ∈ l, 0 ≤ x ∧ x ≤ (k : Int) * 9216
section
variable {r m s n : Int} {l : List Int} {k c : Nat}
theorem InvT.ok (h : InvT m k s l) (hr : 0 ≤ r ∧ r ≤ 1073741824) (hm : 0 ≤ m ∧ m ≤ 1073741824) (hk : k ≤ 1000) : QU.QOk r m s l :=
  ⟨hr.1, hr.2, hm.1, hm.2, by have := h.s0; omega, by have := h.s1; omega, h.len, fun x hx => by have := h.l0 x hx; omega⟩
theorem InvT.up (h : InvT m k s l) : InvT m (k + 1) s l := ⟨by have := h.s0; omega, h.s1, h.len, fun x hx => by have := h.l0 x hx; omega⟩
theorem InvT.get (h : InvT m k s l) (c : Nat) : 0 ≤ l.getD c 0 ∧ l.getD c 0 ≤ (k : Int) * 9216 := by
  rw [List.getD_eq_getElem?_getD]
  cases hx : l[c]? with
  | none => simp; omega
  | some x => simpa using h.l0 x (List.mem_of_getElem? hx)
theorem InvT.add (h : InvT m k s l) (hn : 0 ≤ n ∧ n ≤ 9216) : InvT m (k + 1) (QU.addS r m s l (c : Nat) n) (QU.addL r m s l (c : Nat) n) := by
  unfold QU.addS QU.addL
  cases hf : QU.fitsB r m s l (c : Nat) n with
  | false => exact h.up
  | true =>
    obtain ⟨h1, h2, h3, h4, h5⟩ := QU.fits_in hf
    have g := h.get (c : Int).toNat
    have hs := h.s0
    refine ⟨?_, h5, ?_, fun x hx => ?_⟩
    · show _ ≤ QU.putS r s l (c : Nat) n
      unfold QU.putS QU.moreQ
      have := QU.overQ_mono (r := r) (show l.getD (c : Int).toNat 0 ≤ l.getD (c : Int).toNat 0 + n by omega)
      omega
    · show (QU.putL l (c : Nat) n).length ≤ 129
      unfold QU.putL
      rw [List.length_set]
      exact h.len
    · have hx' : x ∈ QU.putL l (c : Nat) n := hx
      unfold QU.putL at hx'
      rcases QU.mem_set hx' with rfl | hx'
      · omega
      · have := h.l0 x hx'
        omega
theorem InvT.sub (h : InvT m k s l) (hn : 0 ≤ n ∧ n ≤ 9216) : InvT m (k + 1) (QU.subS r s l (c : Nat) n) (QU.subL l (c : Nat) n) := by
  unfold QU.subS QU.subL
  cases hf : QU.takesB l (c : Nat) n with
  | false => exact h.up
  | true =>
    have h3 : n ≤ l.getD (c : Int).toNat 0 := by
      unfold QU.takesB at hf
      simp only [Bool.and_eq_true, decide_eq_true_eq] at hf
      exact hf.2
    have g := h.get (c : Int).toNat
    have hs := h.s0
    have hs1 := h.s1
    have o1 := QU.overQ_mono (r := r) (show l.getD (c : Int).toNat 0 + -n ≤ l.getD (c : Int).toNat 0 by omega)
    have o2 := QU.overQ_le (r := r) (show l.getD (c : Int).toNat 0 + -n ≤ l.getD (c : Int).toNat 0 by omega)
    refine ⟨?_, ?_, ?_, fun x hx => ?_⟩
    · show _ ≤ QU.putS r s l (c : Nat) (-n)
      unfold QU.putS QU.moreQ
      omega
    · show QU.putS r s l (c : Nat) (-n) ≤ m
      unfold QU.putS QU.moreQ
      omega
    · show (QU.putL l (c : Nat) (-n)).length ≤ 129
      unfold QU.putL
      rw [List.length_set]
      exact h.len
    · have hx' : x ∈ QU.putL l (c : Nat) (-n) := hx
      unfold QU.putL at hx'
      rcases QU.mem_set hx' with rfl | hx'
      · omega
      · have := h.l0 x hx'
        omega
end
/-- Whose turn it is, and who is awake. -/
structure TurnsOk (tl : List Tcl) (line : List Nat) : Prop where
  nd : line.Nodup
  aw : ∀ c ∈ line, ∃ y, tl[c]? = some y ∧ y.awake = true
  inl : ∀ (c : Nat) (y : Tcl), tl[c]? = some y → y.awake = true → c ∈ line
  ln : line.length = tl.countP (·.awake)
theorem TurnsOk.wake {tl : List Tcl} {line : List Nat} (h : TurnsOk tl line) (c : Nat) : TurnsOk (wakeT tl line c).1 (wakeT tl line c).2 := by
  have hc := wake_count tl line c h.ln
  unfold wakeT at hc ⊢
  cases hx : tl[c]? with
  | none => exact h
  | some x =>
    rw [hx] at hc
    simp only at hc ⊢
    cases ha : x.awake with
    | true =>
      simp only [if_true]
      exact h
    | false =>
      rw [ha] at hc
      simp only [Bool.false_eq_true, if_false] at hc ⊢
      have hcl := lt_of_some hx
      have hni : c ∉ line := fun hm => by
        obtain ⟨y, h1, h2⟩ := h.aw c hm
        rw [hx] at h1
        injection h1 with h1
        subst h1
        rw [ha] at h2
        cases h2
      refine ⟨?_, fun d hd => ?_, fun d y hd hy => ?_, hc⟩
      · rw [List.nodup_append]
        refine ⟨h.nd, by simp, fun a ha' b hb => ?_⟩
        rw [List.mem_singleton.1 hb]
        intro e
        subst e
        exact hni ha'
      · rcases List.mem_append.1 hd with hd | hd
        · obtain ⟨y, h1, h2⟩ := h.aw d hd
          have hne : c ≠ d := fun e => hni (e ▸ hd)
          exact ⟨y, by rw [List.getElem?_set_ne hne]; exact h1, h2⟩
        · rw [List.mem_singleton.1 hd]
          exact ⟨⟨true, true, 0⟩, List.getElem?_set_self hcl, rfl⟩
      · by_cases e : c = d
        · subst e
          simp
        · rw [List.getElem?_set_ne e] at hd
          exact List.mem_append.2 (.inl (h.inl d y hd hy))
theorem wake_awake {tl : List Tcl} {line : List Nat} {c : Nat} {y : Tcl} (h : tl[c]? = some y) : ∃ z, (wakeT tl line c).1[c]? = some z ∧ z.awake = true := by
  unfold wakeT
  rw [h]
  simp only
  by_cases ha : y.awake = true
  · rw [if_pos ha]
    exact ⟨y, h, ha⟩
  · rw [if_neg ha]
    exact ⟨_, List.getElem?_set_self (lt_of_some h), rfl⟩
theorem wake_keep {tl : List Tcl} {line : List Nat} {c d : Nat} (h : d ≠ c) : (wakeT tl line c).1[d]? = tl[d]? := by
  unfold wakeT
  split
  · split
    · rfl
    · exact List.getElem?_set_ne (fun e => h e.symm)
  · rfl
theorem wakeV_len (tl : List Tcl) (line : List Nat) (c : Nat) : (wakeT tl line c).1.length = tl.length := by
  unfold wakeT
  split
  · split
    · rfl
    · simp
  · rfl
theorem TurnsOk.sleep {tl : List Tcl} {line : List Nat} (h : TurnsOk tl line) {c j : Nat} (hj : line[j]? = some c) : TurnsOk (tl.set c ⟨false, false, 0⟩) (line.eraseIdx j) := by
  have hjl := lt_of_some hj
  obtain ⟨y, hy, hya⟩ := h.aw c (List.mem_of_getElem? hj)
  have hcl := lt_of_some hy
  have hmem : ∀ d, d ∈ line.eraseIdx j → d ∈ line ∧ d ≠ c := fun d hd => by
    obtain ⟨i, hi⟩ := List.getElem?_of_mem hd
    rw [erase_at] at hi
    by_cases hij : i < j
    · rw [if_pos hij] at hi
      exact ⟨List.mem_of_getElem? hi, fun e => by have := nodup_at h.nd (e ▸ hi) hj; omega⟩
    · rw [if_neg hij] at hi
      exact ⟨List.mem_of_getElem? hi, fun e => by have := nodup_at h.nd (e ▸ hi) hj; omega⟩
  have hin : ∀ d, d ∈ line → d ≠ c → d ∈ line.eraseIdx j := fun d hd hne => by
    obtain ⟨i, hi⟩ := List.getElem?_of_mem hd
    have hij : i ≠ j := fun e => by
      subst e
      rw [hj] at hi
      injection hi with hi
      exact hne hi.symm
    rcases Nat.lt_or_gt_of_ne hij with h1 | h1
    · exact List.mem_of_getElem? (i := i) (by rw [erase_at, if_pos h1]; exact hi)
    · exact List.mem_of_getElem? (i := i - 1) (by rw [erase_at, if_neg (by omega), show i - 1 + 1 = i by omega]; exact hi)
  refine ⟨h.nd.sublist (List.eraseIdx_sublist _ _), fun d hd => ?_, fun d z hd hz => ?_, ?_⟩
  · obtain ⟨h1, h2⟩ := hmem d hd
    obtain ⟨z, h3, h4⟩ := h.aw d h1
    exact ⟨z, by rw [List.getElem?_set_ne (fun e => h2 e.symm)]; exact h3, h4⟩
  · by_cases e : c = d
    · subst e
      rw [List.getElem?_set_self hcl] at hd
      injection hd with hd
      subst hd
      cases hz
    · rw [List.getElem?_set_ne e] at hd
      exact hin d (h.inl d z hd hz) (fun e2 => e e2.symm)
  · rw [List.length_eraseIdx_of_lt hjl, List.countP_set hcl, h.ln]
    have e : tl[c] = y := by
      rw [List.getElem?_eq_getElem hcl] at hy
      injection hy
    rw [e, hya]
    simp
end Go.Proofs.YtpanmfdbdgecaaaGreat.C

namespace Go.Proofs.YtpanmfdbdgecaaaGreat.C
open Go.RowKit
set_option linter.unusedVariables false
/-- TopVictim's config. -/
structure VicF (F : PCf) (n m : Nat) (K : Nat → Nat) : Prop where
  ok : F.Ok
  c0 : F.c 0 = (n : Nat)
  c1 : F.c 1 = 200
  c2 : F.c 2 = 1
  c3 : F.c 3 = (m : Nat)
  c4 : F.c 4 = 65536
  c5 : F.c 5 = 0
  c6 : F.c 6 = 64
  c7 : F.c 7 = 64
  c9 : F.c 9 = 5000
  c10 : F.c 10 = 0
  c12 : F.c 12 = 5000
  c13 : F.c 13 = 5000
  c14 : F.c 14 = 0
  c15 : F.c 15 = 1099511627776
  c16 : F.c 16 = 1099511627776
  nr : 1 ≤ n ∧ n ≤ 64
  mr : 1 ≤ m ∧ m ≤ 64
  key : Key16 F.kv K
/-- The class, and the bin, of a number's flow. -/
noncomputable def vcl (K : Nat → Nat) (n nn : Nat) : Nat := fallV K (kF nn) 0 n
noncomputable def vbn (K : Nat → Nat) (m nn : Nat) : Nat := fallV K (kF nn) 1 m
/-- A packet that waits in a class. -/
def WV (K : Nat → Nat) (n m c : Nat) (x : Array Value) : Prop := ∃ (nn : Nat) (len sq : Int), nn < 256 ∧ PkL x len ∧ (1 ≤ len ∧ len ≤ 9216) ∧ PkF x (flowX 10 1 nn 7 9 0 0 0 1000 53) ∧ x[0]? = some (.int .i64 sq) ∧ vcl K n nn = c ∧ (c ≠ vcl K n 0 → vbn K m nn ≠ vbn K m 0)
/-- What waits: bounds for the quota, for how many wait; the victim has sent so much. -/
structure VW (n m : Nat) (P : Nat → Array Value → Prop) (c0 k0 kq tt : Nat) (sent : Int) (S : PSt) : Prop where
  Ll : S.L.length = 2 * n + 1
  tll : S.tl.length = 2 * n + 1
  pk : ∀ (c : Nat) (l : List (Array Value)), S.L[c]? = some l → ∀ x ∈ l, P c x
  tot : total S.L ≤ tt
  aw : ∀ (c : Nat) (l : List (Array Value)), S.L[c]? = some l → l ≠ [] → ∃ y, S.tl[c]? = some y ∧ y.awake = true
  tn : TurnsOk S.tl S.line
  q : InvT 0 kq S.sh S.ql
  qv : S.ql[c0]? = some sent
  b0l : S.b0.length = m
  b0 : ∀ (k : Nat) (b : Bin), S.b0[k]? = some b → BinOk b
  bv : ∃ b, S.b0[k0]? = some b ∧ b.bytes = sent ∧ b.p = 0
  vl : ∃ l, S.L[c0]? = some l ∧ sumL l = sent
  s0 : 0 ≤ sent ∧ sent ≤ 5000
section
variable {F : PCf} {n m : Nat} {K : Nat → Nat} {P : Nat → Array Value → Prop} {S : PSt} {c0 k0 kq tt : Nat} {sent : Int}
theorem vcl_lt (hn : 1 ≤ n) (nn : Nat) : vcl K n nn < n := fallV_lt _ _ _ _ hn
theorem vbn_lt (hm : 1 ≤ m) (nn : Nat) : vbn K m nn < m := fallV_lt _ _ _ _ hm
theorem VW.up (h : VW n m P c0 k0 kq tt sent S) {kq' tt' : Nat} (h1 : kq ≤ kq') (h2 : tt ≤ tt') : VW n m P c0 k0 kq' tt' sent S := by
  have g := h.q
  exact ⟨h.Ll, h.tll, h.pk, Nat.le_trans h.tot h2, h.aw, h.tn, ⟨by have := g.s0; omega, g.s1, g.len, fun x hx => by have := g.l0 x hx; omega⟩, h.qv, h.b0l, h.b0, h.bv, h.vl, h.s0⟩
/-- Only what isn't the waiting has changed. -/
theorem VW.same (h : VW n m P c0 k0 kq tt sent S) {S' : PSt} (e1 : S'.L = S.L) (e2 : S'.tl = S.tl) (e3 : S'.line = S.line) (e4 : S'.sh = S.sh) (e5 : S'.ql = S.ql) (e6 : S'.b0 = S.b0) : VW n m P c0 k0 kq tt sent S' :=
  ⟨by rw [e1]; exact h.Ll, by rw [e2]; exact h.tll, by rw [e1]; exact h.pk, by rw [e1]; exact h.tot, by rw [e1, e2]; exact h.aw, by rw [e2, e3]; exact h.tn, by rw [e4, e5]; exact h.q, by rw [e5]; exact h.qv, by rw [e6]; exact h.b0l, by rw [e6]; exact h.b0, by rw [e6]; exact h.bv, by rw [e1]; exact h.vl, h.s0⟩
theorem touch_ok {tg hd up dn now : Int} {b : Bin} (h : BinOk b) (hn : 0 ≤ now ∧ now ≤ 4611686018427387903) (hu : 0 ≤ up ∧ up ≤ 65536) (hd' : 0 ≤ dn ∧ dn ≤ 65536) : BinOk (touchB tg hd up dn now b) := by
  obtain ⟨o1, o2, o3, o4⟩ := h
  unfold touchB
  split
  · exact ⟨o1, o2, o3, o4⟩
  · split
    · refine ⟨hn.1, hn.2, ?_, ?_⟩
      · show 0 ≤ (if 65536 < b.p + up then 65536 else b.p + up)
        split <;> omega
      · show (if 65536 < b.p + up then 65536 else b.p + up) ≤ 65536
        split <;> omega
    · split
      · refine ⟨hn.1, hn.2, ?_, ?_⟩
        · show 0 ≤ (if b.p - dn < 0 then 0 else b.p - dn)
          split <;> omega
        · show (if b.p - dn < 0 then 0 else b.p - dn) ≤ 65536
          split <;> omega
      · exact ⟨o1, o2, o3, o4⟩
/-- Another one's bin has changed. -/
theorem VW.bin (h : VW n m P c0 k0 kq tt sent S) {k : Nat} {b : Bin} (hk : k ≠ k0) (hb : BinOk b) : VW n m P c0 k0 kq tt sent { S with b0 := S.b0.set k b } := by
  refine ⟨h.Ll, h.tll, h.pk, h.tot, h.aw, h.tn, h.q, h.qv, by show (S.b0.set k b).length = m; rw [List.length_set]; exact h.b0l, fun j c hj => ?_, ?_, h.vl, h.s0⟩
  · have hj : (S.b0.set k b)[j]? = some c := hj
    have hm := List.mem_of_getElem? hj
    rcases List.mem_or_eq_of_mem_set hm with h1 | rfl
    · obtain ⟨i, hi⟩ := List.getElem?_of_mem h1
      exact h.b0 i c hi
    · exact hb
  · obtain ⟨c, h1, h2⟩ := h.bv
    exact ⟨c, by show (S.b0.set k b)[k0]? = some c; rw [List.getElem?_set_ne hk]; exact h1, h2⟩
theorem addL_other {r mm s : Int} {l : List Int} {c d : Nat} {x : Int} (hc : c ≠ d) : (QU.addL r mm s l (c : Nat) x)[d]? = l[d]? := by
  unfold QU.addL QU.putL
  split
  · rw [List.getElem?_set_ne (by simpa using hc)]
  · rfl
theorem subL_other {l : List Int} {c d : Nat} {x : Int} (hc : c ≠ d) : (QU.subL l (c : Nat) x)[d]? = l[d]? := by
  unfold QU.subL QU.putL
  split
  · rw [List.getElem?_set_ne (by simpa using hc)]
  · rfl
/-- Another one's packet leaves. -/
theorem VW.leave (h : VW n m P c0 k0 kq tt sent S) (hF : VicF F n m K) {cl kx j k : Nat} {l0 : List (Array Value)} {x : Array Value} {len : Int} {bn : Bin} (hl : S.L[cl]? = some l0) (hkx : l0[kx]? = some x) (hc : cl ≠ c0) (hk : k ≠ k0) (hbn : BinOk bn) (hlen : 0 ≤ len ∧ len ≤ 9216) (hj : S.line[j]? = some cl) : VW n m P c0 k0 (kq + 1) tt sent (leftF F S len cl (l0.eraseIdx kx) k j bn) := by
  have hcl := lt_of_some hl
  have hb : BinOk ⟨subC bn.bytes len, bn.changed, bn.p⟩ := hbn
  refine ⟨by show (S.L.set cl _).length = _; rw [List.length_set]; exact h.Ll, ?_, fun c l hcl' z hz => ?_, ?_, fun c l hcl' hne => ?_, ?_, ?_, ?_, ?_, ?_, ?_, ?_, h.s0⟩
  · show (if l0.eraseIdx kx = [] then S.tl.set cl ⟨false, false, 0⟩ else S.tl).length = _
    split
    · rw [List.length_set]; exact h.tll
    · exact h.tll
  · have hcl' : (S.L.set cl (l0.eraseIdx kx))[c]? = some l := hcl'
    by_cases e : cl = c
    · subst e
      rw [List.getElem?_set_self hcl] at hcl'
      injection hcl' with hcl'
      subst hcl'
      exact h.pk cl l0 hl z (List.mem_of_mem_eraseIdx hz)
    · rw [List.getElem?_set_ne e] at hcl'
      exact h.pk c l hcl' z hz
  · show total (S.L.set cl (l0.eraseIdx kx)) ≤ tt
    have h1 := total_set S.L cl l0 (l0.eraseIdx kx) hl
    have h2 := List.length_eraseIdx_of_lt (lt_of_some hkx)
    have := h.tot
    omega
  · have hcl' : (S.L.set cl (l0.eraseIdx kx))[c]? = some l := hcl'
    show ∃ y, (if l0.eraseIdx kx = [] then S.tl.set cl ⟨false, false, 0⟩ else S.tl)[c]? = some y ∧ y.awake = true
    by_cases e : cl = c
    · subst e
      rw [List.getElem?_set_self hcl] at hcl'
      injection hcl' with hcl'
      rw [if_neg (by rw [hcl']; exact hne)]
      exact h.aw cl l0 hl (fun e0 => by rw [e0] at hkx; simp at hkx)
    · rw [List.getElem?_set_ne e] at hcl'
      obtain ⟨y, h1, h2⟩ := h.aw c l hcl' hne
      refine ⟨y, ?_, h2⟩
      split
      · rw [List.getElem?_set_ne e]; exact h1
      · exact h1
  · show TurnsOk (if l0.eraseIdx kx = [] then S.tl.set cl ⟨false, false, 0⟩ else S.tl) (if l0.eraseIdx kx = [] then S.line.eraseIdx j else S.line)
    split
    · exact h.tn.sleep hj
    · exact h.tn
  · show InvT 0 (kq + 1) (QU.subS (F.c 9) S.sh S.ql (cl : Nat) len) (QU.subL S.ql (cl : Nat) len)
    exact h.q.sub hlen
  · show (QU.subL S.ql (cl : Nat) len)[c0]? = some sent
    rw [subL_other hc]
    exact h.qv
  · exact (h.bin hk hb).b0l
  · exact (h.bin hk hb).b0
  · exact (h.bin hk hb).bv
  · obtain ⟨l, h1, h2⟩ := h.vl
    exact ⟨l, by show (S.L.set cl _)[c0]? = some l; rw [List.getElem?_set_ne hc]; exact h1, h2⟩
/-- A packet joins a class (its bin counted). -/
def joinV (F : PCf) (S : PSt) (len : Int) (x : Array Value) (cl k : Nat) (l : List (Array Value)) (b : Bin) : PSt :=
  { S with L := S.L.set cl (l ++ [x]), sh := QU.addS (F.c 9) (F.c 10) S.sh S.ql (cl : Nat) len, ql := QU.addL (F.c 9) (F.c 10) S.sh S.ql (cl : Nat) len, b0 := S.b0.set k b, b1 := S.b1, tl := (wakeT S.tl S.line cl).1, line := (wakeT S.tl S.line cl).2 }
theorem VW.join (h : VW n m P c0 k0 kq tt sent S) (hF : VicF F n m K) {cl k : Nat} {l : List (Array Value)} {x : Array Value} {len : Int} {b : Bin} (hl : S.L[cl]? = some l) (hc : cl ≠ c0) (hk : k ≠ k0) (hb : BinOk b) (hlen : 0 ≤ len ∧ len ≤ 9216) (hx : P cl x) : VW n m P c0 k0 (kq + 1) (tt + 1) sent (joinV F S len x cl k l b) := by
  have hcl := lt_of_some hl
  refine ⟨by show (S.L.set cl _).length = _; rw [List.length_set]; exact h.Ll, by show (wakeT S.tl S.line cl).1.length = _; rw [wakeV_len]; exact h.tll, fun c l' hcl' z hz => ?_, ?_, fun c l' hcl' hne => ?_, h.tn.wake cl, ?_, ?_, (h.bin hk hb).b0l, (h.bin hk hb).b0, (h.bin hk hb).bv, ?_, h.s0⟩
  · have hcl' : (S.L.set cl (l ++ [x]))[c]? = some l' := hcl'
    by_cases e : cl = c
    · subst e
      rw [List.getElem?_set_self hcl] at hcl'
      injection hcl' with hcl'
      subst hcl'
      rcases List.mem_append.1 hz with hz | hz
      · exact h.pk cl l hl z hz
      · rw [List.mem_singleton.1 hz]; exact hx
    · rw [List.getElem?_set_ne e] at hcl'
      exact h.pk c l' hcl' z hz
  · show total (S.L.set cl (l ++ [x])) ≤ tt + 1
    have h1 := total_set S.L cl l (l ++ [x]) hl
    have := h.tot
    simp at h1
    omega
  · have hcl' : (S.L.set cl (l ++ [x]))[c]? = some l' := hcl'
    show ∃ y, (wakeT S.tl S.line cl).1[c]? = some y ∧ y.awake = true
    by_cases e : c = cl
    · subst e
      obtain ⟨y, hy⟩ : ∃ y, S.tl[c]? = some y := ⟨_, List.getElem?_eq_getElem (by rw [h.tll, ← h.Ll]; exact hcl)⟩
      exact wake_awake hy
    · rw [List.getElem?_set_ne (fun e2 => e e2.symm)] at hcl'
      obtain ⟨y, h1, h2⟩ := h.aw c l' hcl' hne
      exact ⟨y, by rw [wake_keep e]; exact h1, h2⟩
  · show InvT 0 (kq + 1) (QU.addS (F.c 9) (F.c 10) S.sh S.ql (cl : Nat) len) (QU.addL (F.c 9) (F.c 10) S.sh S.ql (cl : Nat) len)
    rw [hF.c10]
    exact h.q.add hlen
  · show (QU.addL (F.c 9) (F.c 10) S.sh S.ql (cl : Nat) len)[c0]? = some sent
    rw [addL_other hc]
    exact h.qv
  · obtain ⟨l', h1, h2⟩ := h.vl
    exact ⟨l', by show (S.L.set cl _)[c0]? = some l'; rw [List.getElem?_set_ne hc]; exact h1, h2⟩
/-- The victim's packet fits. -/
theorem VW.fits (h : VW n m P c0 k0 kq tt sent S) (hF : VicF F n m K) {len : Int} (hlen : 1 ≤ len ∧ len ≤ 9216) (hs : sent + len ≤ 5000) : QU.fitsB (F.c 9) (F.c 10) S.sh S.ql (c0 : Nat) len = true := by
  have hs1 := h.q.s1
  have hs0 := h.s0
  rw [hF.c9, hF.c10]
  unfold QU.fitsB
  rw [Int.toNat_natCast, h.qv]
  simp only [Bool.and_eq_true, decide_eq_true_eq]
  unfold QU.moreQ QU.overQ
  rw [if_neg (by omega), if_neg (by omega)]
  omega
theorem VW.qok (h : VW n m P c0 k0 kq tt sent S) (hF : VicF F n m K) (hk : kq ≤ 1000) : QU.QOk (F.c 9) (F.c 10) S.sh S.ql := by
  rw [hF.c9, hF.c10]
  exact h.q.ok (by decide) (by decide) hk
/-- The victim's packet joins. -/
theorem VW.mine (h : VW n m P c0 k0 kq tt sent S) (hF : VicF F n m K) (hn0 : 0 ≤ (0 : Int)) {l : List (Array Value)} {x : Array Value} {len : Int} {b : Bin} (hl : S.L[c0]? = some l) (hb : S.b0[k0]? = some b) (hlen : 1 ≤ len ∧ len ≤ 9216) (hs : sent + len ≤ 5000) (hx : P c0 x) (hxl : lenP x = len) : VW n m P c0 k0 (kq + 1) (tt + 1) (sent + len) (freeS F S x len 0 c0 k0 l b) := by
  have hcl := lt_of_some hl
  obtain ⟨b', hb1, hb2, hb3⟩ := h.bv
  rw [hb] at hb1
  injection hb1 with hb1
  subst hb1
  obtain ⟨l', hl1, hl2⟩ := h.vl
  rw [hl] at hl1
  injection hl1 with hl1
  subst hl1
  have hs0 := h.s0
  have hf := h.fits hF hlen hs
  have hbo := h.b0 _ _ hb
  have htp : (touchB (F.c 13) (F.c 14) (F.c 4) (F.c 5) 0 b).p = 0 ∧ (touchB (F.c 13) (F.c 14) (F.c 4) (F.c 5) 0 b).bytes = sent := by
    unfold touchB
    rw [hF.c13, hF.c5]
    split
    · exact ⟨hb3, hb2⟩
    · rw [if_neg (by omega)]
      split
      · refine ⟨?_, hb2⟩
        show (if b.p - 0 < 0 then 0 else b.p - 0) = 0
        rw [hb3]
        rfl
      · exact ⟨hb3, hb2⟩
  have hto := touch_ok (tg := F.c 13) (hd := F.c 14) (now := 0) hbo ⟨by decide, by decide⟩ hF.ok.right.up hF.ok.right.down
  have hba : (binA F 0 len b).bytes = sent + len ∧ (binA F 0 len b).p = 0 := by
    refine ⟨?_, htp.1⟩
    show addC (touchB (F.c 13) (F.c 14) (F.c 4) (F.c 5) 0 b).bytes len = _
    rw [htp.2]
    exact addC_small hs0.1 (by omega) (by omega)
  refine ⟨by show (S.L.set _ _).length = _; rw [List.length_set]; exact h.Ll, by show (wakeT S.tl S.line _).1.length = _; rw [wakeV_len]; exact h.tll, fun c l' hcl' z hz => ?_, ?_, fun c l' hcl' hne => ?_, h.tn.wake _, ?_, ?_, by show (S.b0.set _ _).length = m; rw [List.length_set]; exact h.b0l, fun j c hj => ?_, ⟨_, List.getElem?_set_self (lt_of_some hb), hba⟩, ⟨_, List.getElem?_set_self hcl, ?_⟩, ⟨by omega, hs⟩⟩
  · have hcl' : (S.L.set c0 (l ++ [x]))[c]? = some l' := hcl'
    by_cases e : c0 = c
    · rw [← e] at hcl' ⊢
      rw [List.getElem?_set_self hcl] at hcl'
      injection hcl' with hcl'
      subst hcl'
      rcases List.mem_append.1 hz with hz | hz
      · exact h.pk _ l hl z hz
      · rw [List.mem_singleton.1 hz]; exact hx
    · rw [List.getElem?_set_ne e] at hcl'
      exact h.pk c l' hcl' z hz
  · show total (S.L.set _ (l ++ [x])) ≤ tt + 1
    have h1 := total_set S.L _ l (l ++ [x]) hl
    have := h.tot
    simp at h1
    omega
  · have hcl' : (S.L.set c0 (l ++ [x]))[c]? = some l' := hcl'
    show ∃ y, (wakeT S.tl S.line c0).1[c]? = some y ∧ y.awake = true
    by_cases e : c = c0
    · rw [e]
      obtain ⟨y, hy⟩ : ∃ y, S.tl[c0]? = some y := ⟨_, List.getElem?_eq_getElem (by rw [h.tll, ← h.Ll]; exact hcl)⟩
      exact wake_awake hy
    · rw [List.getElem?_set_ne (fun e2 => e e2.symm)] at hcl'
      obtain ⟨y, h1, h2⟩ := h.aw c l' hcl' hne
      exact ⟨y, by rw [wake_keep e]; exact h1, h2⟩
  · show InvT 0 (kq + 1) (QU.addS (F.c 9) (F.c 10) S.sh S.ql (c0 : Nat) len) (QU.addL (F.c 9) (F.c 10) S.sh S.ql (c0 : Nat) len)
    rw [hF.c10]
    exact h.q.add ⟨by omega, hlen.2⟩
  · show (QU.addL (F.c 9) (F.c 10) S.sh S.ql (c0 : Nat) len)[c0]? = some (sent + len)
    unfold QU.addL
    rw [hf]
    unfold QU.putL
    simp only [if_true]
    rw [Int.toNat_natCast, List.getElem?_set_self (lt_of_some h.qv), List.getD_eq_getElem?_getD, h.qv]
    rfl
  · have hj : (S.b0.set k0 (binA F 0 len b))[j]? = some c := hj
    rcases List.mem_or_eq_of_mem_set (List.mem_of_getElem? hj) with h1 | rfl
    · obtain ⟨i, hi⟩ := List.getElem?_of_mem h1
      exact h.b0 i c hi
    · exact hto
  · have e1 : sumL (l ++ [x]) = sumL l + lenP x := by unfold sumL; simp
    rw [e1, hl2, hxl]
end
end Go.Proofs.YtpanmfdbdgecaaaGreat.C

namespace Go.Proofs.YtpanmfdbdgecaaaGreat.C
open Go.RowKit
set_option linter.unusedVariables false
/-- Behind so many arrivals. -/
structure VA (n m : Nat) (K : Nat → Nat) (c0 k0 t : Nat) (sent : Int) (S : PSt) : Prop where
  w : VW n m (WV K n m) c0 k0 (2 * t) t sent S
  wl : Skt S.wl t
  wn : S.wn = 0
  arr : S.arr = (t : Int)
  xl : S.xl = emp 64
  xn : S.xn = 0
section
variable {F : PCf} {n m : Nat} {K : Nat → Nat} {S : PSt} {c0 k0 t : Nat} {sent : Int}
theorem vic_wadd (hW : Skt S.wl t) (hn : S.wn = 0) (hF : VicF F n m K) (ht : t < 64) {b : Nat} (hb : b < 256) {len : Int} (hl : 1 ≤ len ∧ len ≤ 9216) :
    ∃ (wl : List Slt) (wt : Int), Skt wl (t + 1) ∧ ∀ (A : PAd) (w : World) (ar : Int), Pol w A F { S with arr := ar } → Calls Tryz.prog 37 #[.pointer (some ⟨A.wb, 0, none⟩), .int .i64 0, .agg (pfx 10 1 b), .int .i64 len] w fun e w' => e = .returned (.bool false) ∧ Pol w' A F { S with arr := ar, wl := wl, wt := wt, wn := S.wn } ∧ Tur A.tg [8] w w' := by
  have h6 : (F.c 6).toNat = 64 := by rw [hF.c6]; rfl
  obtain ⟨y, wl2, a1, a2, a3, a4, a5, a6⟩ := hW.add (room := 64) hb ht (Nat.le_refl _) (n := len) ⟨by omega, hl.2⟩
  refine ⟨wl2, addC S.wt len, a1, fun A w ar q => ?_⟩
  have had := a6 A.ws A.wr S.wt
  rw [← h6] at had
  refine (window_add A.wb A.ws A.wr (F.c 6).toNat S.wl S.wl wl2 S.wt S.wt (addC S.wt len) (F.c 15) (F.c 16) S.wn S.wn 0 len y (pfx 10 1 b) w q.wi rfl (pfx_all _ _ _) (by rw [hF.c15]; decide) (by decide) (.inr ⟨by rw [hn, Int.zero_ediv]; exact Int.le_refl _, rfl, rfl, rfl⟩) had a2 ⟨by omega, by omega⟩).mono ?_
  rintro e w'' ⟨rfl, h1, h2⟩
  have t : Tur A.tg [8] w w'' := Tur.of_amg h2 (fun k hk => by
    simp only [List.mem_cons, List.not_mem_nil, or_false] at hk
    rcases hk with rfl | rfl | rfl
    · simp [q.ok.w.1]
    · simp [q.ok.w.2.1]
    · simp [q.ok.w.2.2])
  refine ⟨?_, (q.rest t).setW h1, t⟩
  rw [decide_eq_false (by rw [hF.c16]; omega)]
theorem vic_in (hF : VicF F n m K) (hxl : S.xl = emp 64) (hxn : S.xn = 0) {b : Nat} (hb : b < 256) (A : PAd) (w : World) (q : Pol w A F S) :
    Calls Tryz.prog 38 #[.pointer (some ⟨A.xb, 0, none⟩), .agg (pfx 10 1 b), .int .i64 0] w fun e w' => e = .returned (.bool false) ∧ Pol w' A F S ∧ Tur A.tg [9] w w' := by
  have h7 : (F.c 7).toNat = 64 := by rw [hF.c7]; rfl
  refine (box_in A.xb A.xt A.xr (F.c 7).toNat S.xl S.xl S.xn S.xn (F.c 17) (F.c 18) (F.c 19) 0 0 none false 10 1 b w q.bx ?_ ?_).mono ?_
  · rw [hxl, hxn]
    exact sweeps_none (by rw [emp_len]; omega) (tkn_emp _)
  · rw [hxl]
    exact emp_gets (by decide) (by decide) ⟨by decide, by decide, hb⟩
  · rintro e w'' ⟨rfl, h1, h2⟩
    have r := q.box h2 h1
    exact ⟨rfl, r.1, r.2⟩
set_option maxHeartbeats 1000000 in
theorem vic_other (hV : VA n m K c0 k0 t sent S) (hF : VicF F n m K) (hc0 : vcl K n 0 = c0) (hk0 : vbn K m 0 = k0) (ht : t < 60) {nn : Nat} (hnn : nn < 256) (hcc : vcl K n nn ≠ c0) (hkk : vbn K m nn ≠ k0) {x : Array Value} {len : Int} (hl : 1 ≤ len ∧ len ≤ 9216) (hx : PkP x len (pfx 10 1 nn)) (hxf : PkF x (flowX 10 1 nn 7 9 0 0 0 1000 53)) (d0 : Nat) (A : PAd) (w : World) (hP : Pol w A F S) :
    Calls Tryz.prog 20 #[.pointer (some ⟨A.pb, 0, none⟩), .agg x, .int .i64 0, .agg #[.int .u64 (d0 : Nat), .int .u64 0]] w fun e w' => ∃ (r cl vic : Int) (S5 : PSt), e = .returned (.agg #[.int .i64 S.arr, .int .i64 r, .int .i64 (if r = 0 then cl else -1), .int .i64 vic, .bool false, .bool false]) ∧ (0 ≤ r ∧ r < 16) ∧ VA n m K c0 k0 (t + 1) sent S5 ∧ Pol w' A F S5 ∧ Tur A.tg [1, 3, 4, 5, 6, 7, 8, 9] w w' := by
  obtain ⟨wl, wt, hw1, hw2⟩ := vic_wadd hV.wl hV.wn hF (by omega) hnn hl
  have hnt : (F.c 0).toNat = n := by rw [hF.c0]; rfl
  have hmt : (F.c 3).toNat = m := by rw [hF.c3]; rfl
  have hW4 : VW n m (WV K n m) c0 k0 (2 * t) t sent { S with arr := S.arr + 1, wl := wl, wt := wt, wn := S.wn } := hV.w.same rfl rfl rfl rfl rfl rfl
  have mk : ∀ S5 : PSt, VW n m (WV K n m) c0 k0 (2 * t + 1) (t + 1) sent S5 → S5.wl = wl → S5.wn = S.wn → S5.arr = S.arr + 1 → S5.xl = S.xl → S5.xn = S.xn → VA n m K c0 k0 (t + 1) sent S5 := fun S5 h e1 e2 e3 e4 e5 =>
    ⟨h.up (by omega) (Nat.le_refl _), by rw [e1]; exact hw1, by rw [e2]; exact hV.wn, by rw [e3, hV.arr]; omega, by rw [e4]; exact hV.xl, by rw [e5]; exact hV.xn⟩
  generalize hS4 : ({ S with arr := S.arr + 1, wl := wl, wt := wt, wn := S.wn } : PSt) = S4 at hW4
  have g1 : S4.wl = wl := by rw [← hS4]
  have g2 : S4.wn = S.wn := by rw [← hS4]
  have g3 : S4.arr = S.arr + 1 := by rw [← hS4]
  have g4 : S4.xl = S.xl := by rw [← hS4]
  have g5 : S4.xn = S.xn := by rw [← hS4]
  obtain ⟨cl, hcl⟩ : ∃ c, vcl K n nn = c := ⟨_, rfl⟩
  obtain ⟨k, hk⟩ : ∃ c, vbn K m nn = c := ⟨_, rfl⟩
  have hcln : cl < n := by rw [← hcl]; exact vcl_lt hF.nr.1 nn
  have hkm : k < m := by rw [← hk]; exact vbn_lt hF.mr.1 nn
  rw [hcl] at hcc
  rw [hk] at hkk
  obtain ⟨l, hlL⟩ : ∃ l, S4.L[cl]? = some l := ⟨_, List.getElem?_eq_getElem (by rw [hW4.Ll]; omega)⟩
  obtain ⟨b, hb⟩ : ∃ b, S4.b0[k]? = some b := ⟨_, List.getElem?_eq_getElem (by rw [hW4.b0l]; exact hkm)⟩
  have hbo := hW4.b0 _ _ hb
  have hbt := touch_ok (tg := F.c 13) (hd := F.c 14) (now := 0) hbo ⟨by decide, by decide⟩ hF.ok.right.up hF.ok.right.down
  have hll : l.length ≤ t := Nat.le_trans (total_le S4.L l (List.mem_of_getElem? hlL)) hW4.tot
  have hclI : (cl : Int) < F.c 0 := by rw [hF.c0]; omega
  have hxs := hx.seq S.arr
  have hxq : WV K n m cl (seqX x S.arr) := ⟨nn, len, S.arr, hnn, hxs.l, hl, hxf.seq _, hx.c0 S.arr, hcl, fun _ => by rw [hk, hk0]; exact hkk⟩
  have hW2 := hW4.bin (k := k) hkk hbt
  generalize hS2 : ({ S4 with b0 := S4.b0.set k (touchB (F.c 13) (F.c 14) (F.c 4) (F.c 5) 0 b) } : PSt) = S2 at hW2
  have e2L : S2.L = S4.L := by rw [← hS2]
  have e2b : S2.b0[k]? = some (touchB (F.c 13) (F.c 14) (F.c 4) (F.c 5) 0 b) := by rw [← hS2]; exact List.getElem?_set_self (lt_of_some hb)
  have f1 : S2.wl = wl := by rw [← hS2]; exact g1
  have f2 : S2.wn = S.wn := by rw [← hS2]; exact g2
  have f3 : S2.arr = S.arr + 1 := by rw [← hS2]; exact g3
  have f4 : S2.xl = S.xl := by rw [← hS2]; exact g4
  have f5 : S2.xn = S.xn := by rw [← hS2]; exact g5
  refine (arrive_any (F := F) (A := A) (S := S) (S1 := S4) (S4 := S4) (fun _ _ _ S5 => VA n m K c0 k0 (t + 1) sent S5) len 0 x (pfx 10 1 nn) #[.int .u64 (d0 : Nat), .int .u64 0] hx rfl rfl hl hP (by rw [hV.arr]; omega) ?wa ?i2 ?fr).mono ?_
  case wa =>
    intro w' q
    have := hw2 A w' (S.arr + 1) q
    rw [hS4] at this
    exact this
  case i2 => exact fun w' q => vic_in hF (g4.trans hV.xl) (g5.trans hV.xn) hnn A w' q
  case fr =>
    intro w' vb q hvb hvt
    refine free_any K (kF nn) (seqX x S.arr) _ #[.int .u64 (d0 : Nat), .int .u64 0] cl k vb d0 nn len 0 0 S.arr l b (fun _ _ _ S5 => VA n m K c0 k0 (t + 1) sent S5) q ⟨hF.c2, hF.key⟩ hxs.l (hxf.seq _) (key_flow 10 1 nn 7 9 0 0 0 ⟨by decide, by decide, hnn, by decide⟩ ⟨by decide, by decide, by decide, by decide⟩) hl (by rw [hnt]; exact hcl) (by rw [hmt]; exact hk) hb hbo ⟨by decide, by decide⟩ hlL rfl rfl rfl (by decide) rfl hnn (by omega) (fun z hz => ?_) (fun kx hkx => ?_) ?_ ?_ hvb hvt
    · obtain ⟨n', len', sq', h1, h2, h3, h4, h5, h6, h7⟩ := hW4.pk cl l hlL z hz
      exact ⟨h2.pk, n', h1, h4⟩
    · obtain ⟨z, hz⟩ : ∃ z, l[kx]? = some z := ⟨_, List.getElem?_eq_getElem hkx⟩
      obtain ⟨n', len', sq', h1, h2, h3, h4, h5, h6, h7⟩ := hW4.pk cl l hlL z (List.mem_of_getElem? hz)
      obtain ⟨y, hy, hya⟩ := hW4.aw cl l hlL (fun e0 => by rw [e0] at hz; simp at hz)
      obtain ⟨j, hj⟩ := List.getElem?_of_mem (hW4.tn.inl cl y hy hya)
      have hk7 := h7 (by rw [hc0]; exact hcc)
      rw [hk0] at hk7
      obtain ⟨b', hb'⟩ : ∃ b', S4.b0[vbn K m n']? = some b' := ⟨_, List.getElem?_eq_getElem (by rw [hW4.b0l]; exact vbn_lt hF.mr.1 n')⟩
      refine ⟨z, sq', leftF F S4 len' cl (l.eraseIdx kx) (vbn K m n') j b', h5, h2.pk, fun w1 q1 => ?_, mk _ ((hW4.leave hF hlL hz hcc hk7 (hW4.b0 _ _ hb') ⟨by omega, h3.2⟩ hj).up (Nat.le_refl _) (by omega)) g1 g2 g3 g4 g5⟩
      exact leave_free K (kF n') z _ cl kx (vbn K m n') j len' l (l.eraseIdx kx) y b' q1 ⟨hF.c2, hF.key⟩ h2 h4 (key_flow 10 1 n' 7 9 0 0 0 ⟨by decide, by decide, h1, by decide⟩ ⟨by decide, by decide, by decide, by decide⟩) hclI (by rw [hmt]; rfl) hb' h3 hlL hz rfl (hW4.qok hF (by omega)) (by rw [hW4.tll]; have := hF.nr; omega) hy hya hj hW4.tn.nd
    · rw [hS2]
      exact mk _ (hW2.up (by omega) (by omega)) f1 f2 f3 f4 f5
    · rw [hS2]
      cases hfit : QU.fitsB (F.c 9) (F.c 10) S2.sh S2.ql (cl : Nat) len with
      | false =>
        refine ⟨13, S2, ⟨by decide, by decide⟩, mk _ (hW2.up (by omega) (by omega)) f1 f2 f3 f4 f5, fun w1 q1 => ?_⟩
        refine (join_quota cl len (seqX x S.arr) hxs.l q1 (hW2.qok hF (by omega)) (by have := hF.nr; omega) hfit).mono ?_
        rintro e w2 ⟨rfl, hB⟩
        exact ⟨rfl, q1.below hB, Tur.of_below hB⟩
      | true =>
        obtain ⟨y, hy⟩ : ∃ y, S2.tl[cl]? = some y := ⟨_, List.getElem?_eq_getElem (by rw [hW2.tll]; omega)⟩
        have hb3 : BinOk ⟨addC (touchB (F.c 13) (F.c 14) (F.c 4) (F.c 5) 0 b).bytes len, (touchB (F.c 13) (F.c 14) (F.c 4) (F.c 5) 0 b).changed, (touchB (F.c 13) (F.c 14) (F.c 4) (F.c 5) 0 b).p⟩ := hbt
        refine ⟨0, joinV F S2 len (seqX x S.arr) cl k l ⟨addC (touchB (F.c 13) (F.c 14) (F.c 4) (F.c 5) 0 b).bytes len, (touchB (F.c 13) (F.c 14) (F.c 4) (F.c 5) 0 b).changed, (touchB (F.c 13) (F.c 14) (F.c 4) (F.c 5) 0 b).p⟩, ⟨by decide, by decide⟩, mk _ (hW2.join hF (by rw [e2L]; exact hlL) hcc hkk hb3 ⟨by omega, hl.2⟩ hxq) f1 f2 f3 f4 f5, fun w1 q1 => ?_⟩
        refine join_yes cl len (seqX x S.arr) l y (S2.b0.set k ⟨addC (touchB (F.c 13) (F.c 14) (F.c 4) (F.c 5) 0 b).bytes len, (touchB (F.c 13) (F.c 14) (F.c 4) (F.c 5) 0 b).changed, (touchB (F.c 13) (F.c 14) (F.c 4) (F.c 5) 0 b).p⟩) S2.b1 hxs.l q1 (hW2.qok hF (by omega)) (by rw [e2L]; exact hlL) (by rw [hW2.tll]; have := hF.nr; omega) hl hfit (by rw [hF.c1]; have := hW2.tot; show _ < 200; omega) hy (wake_room hW2.tn.ln hy) (fun w2 S' q2 e0 e1 => ?_)
        refine (count_free K (kF nn) (seqX x S.arr) _ cl k len (touchB (F.c 13) (F.c 14) (F.c 4) (F.c 5) 0 b) q2 ⟨hF.c2, hF.key⟩ hxs.l (hxf.seq _) (key_flow 10 1 nn 7 9 0 0 0 ⟨by decide, by decide, hnn, by decide⟩ ⟨by decide, by decide, by decide, by decide⟩) hclI (by rw [hmt]; exact hk) (by rw [e0]; exact e2b) hl).mono ?_
        rintro e w3 ⟨rfl, hP3, hT3⟩
        refine ⟨rfl, ?_, hT3⟩
        rw [← e0, ← e1]
        exact hP3
  · rintro e w' ⟨r, cl', vic, S5, rfl, h1, h2, h3, h4⟩
    exact ⟨r, cl', vic, S5, rfl, h1, h2, h3, h4⟩
theorem vic_mine (hV : VA n m K c0 k0 t sent S) (hF : VicF F n m K) (hc0 : vcl K n 0 = c0) (hk0 : vbn K m 0 = k0) (ht : t < 60) {x : Array Value} {len : Int} (hl : 1 ≤ len ∧ len ≤ 9216) (hs : sent + len ≤ 5000) (hx : PkP x len (pfx 10 1 0)) (hxf : PkF x (flowX 10 1 0 7 9 0 0 0 1000 53)) (d0 : Nat) (A : PAd) (w : World) (hP : Pol w A F S) :
    Calls Tryz.prog 20 #[.pointer (some ⟨A.pb, 0, none⟩), .agg x, .int .i64 0, .agg #[.int .u64 (d0 : Nat), .int .u64 0]] w fun e w' => ∃ (S5 : PSt), e = .returned (.agg #[.int .i64 S.arr, .int .i64 0, .int .i64 (c0 : Nat), .int .i64 (-1), .bool false, .bool false]) ∧ VA n m K c0 k0 (t + 1) (sent + len) S5 ∧ Pol w' A F S5 ∧ Tur A.tg [1, 3, 4, 5, 6, 7, 8, 9] w w' := by
  obtain ⟨wl, wt, hw1, hw2⟩ := vic_wadd hV.wl hV.wn hF (by omega) (show 0 < 256 by decide) hl
  have hnt : (F.c 0).toNat = n := by rw [hF.c0]; rfl
  have hmt : (F.c 3).toNat = m := by rw [hF.c3]; rfl
  have hW4 : VW n m (WV K n m) c0 k0 (2 * t) t sent { S with arr := S.arr + 1, wl := wl, wt := wt, wn := S.wn } := hV.w.same rfl rfl rfl rfl rfl rfl
  generalize hS4 : ({ S with arr := S.arr + 1, wl := wl, wt := wt, wn := S.wn } : PSt) = S4 at hW4
  have g1 : S4.wl = wl := by rw [← hS4]
  have g2 : S4.wn = S.wn := by rw [← hS4]
  have g3 : S4.arr = S.arr + 1 := by rw [← hS4]
  have g4 : S4.xl = S.xl := by rw [← hS4]
  have g5 : S4.xn = S.xn := by rw [← hS4]
  have hcln : c0 < n := by rw [← hc0]; exact vcl_lt hF.nr.1 0
  obtain ⟨l, hlL, hsl⟩ := hW4.vl
  obtain ⟨b, hb, hb1, hb2⟩ := hW4.bv
  have hbo := hW4.b0 _ _ hb
  have hs0 := hV.w.s0
  obtain ⟨y, hy⟩ : ∃ y, S4.tl[c0]? = some y := ⟨_, List.getElem?_eq_getElem (by rw [hW4.tll]; omega)⟩
  have hxs := hx.seq S.arr
  have hxq : WV K n m c0 (seqX x S.arr) := ⟨0, len, S.arr, by decide, hxs.l, hl, hxf.seq _, hx.c0 S.arr, hc0, fun h => absurd hc0.symm h⟩
  have htp : (touchB (F.c 13) (F.c 14) (F.c 4) (F.c 5) 0 b).p ≤ 0 := by
    unfold touchB
    rw [hF.c13, hF.c5]
    split
    · rw [hb2]; exact Int.le_refl _
    · rw [if_neg (by omega)]
      split
      · show (if b.p - 0 < 0 then 0 else b.p - 0) ≤ 0
        rw [hb2]
        decide
      · rw [hb2]; exact Int.le_refl _
  have hW5 := hW4.mine hF (by decide) hlL hb hl hs hxq hxs.l.lenP
  refine (arrive_light (F := F) (A := A) (S := S) (S1 := S4) (S4 := S4) (S5 := freeS F S4 (seqX x S.arr) len 0 c0 k0 l b) c0 len 0 x (pfx 10 1 0) #[.int .u64 (d0 : Nat), .int .u64 0] hx rfl rfl hl hP (by rw [hV.arr]; omega) ?wa ?i2 ?fr).mono ?_
  case wa =>
    intro w' q
    have := hw2 A w' (S.arr + 1) q
    rw [hS4] at this
    exact this
  case i2 => exact fun w' q => vic_in hF (g4.trans hV.xl) (g5.trans hV.xn) (by decide) A w' q
  case fr =>
    intro w' vb V q hvb hVz hvt
    exact free_ok K (kF 0) (seqX x S.arr) _ #[.int .u64 (d0 : Nat), .int .u64 0] V c0 k0 vb len 0 0 l y b q ⟨hF.c2, hF.key⟩ hxs.l (hxf.seq _) (key_flow 10 1 0 7 9 0 0 0 ⟨by decide, by decide, by decide, by decide⟩ ⟨by decide, by decide, by decide, by decide⟩) hl (by rw [hnt]; exact hc0) (by rw [hmt]; exact hk0) hb hbo ⟨by decide, by decide⟩ hlL (by rw [hsl, hF.c12]; omega) rfl rfl (by decide) htp (hW4.qok hF (by omega)) (by rw [hW4.tll]; have := hF.nr; omega) (hW4.fits hF hl hs) (by rw [hF.c1]; have := hW4.tot; show _ < 200; omega) hy (wake_room hW4.tn.ln hy) hvb hVz hvt
  · rintro e w' ⟨rfl, h1, h2⟩
    exact ⟨_, rfl, ⟨hW5.up (by omega) (Nat.le_refl _), by show Skt S4.wl _; rw [g1]; exact hw1, g2.trans hV.wn, by show S4.arr = _; rw [g3, hV.arr]; omega, g4.trans hV.xl, g5.trans hV.xn⟩, h1, h2⟩
end
end Go.Proofs.YtpanmfdbdgecaaaGreat.C
