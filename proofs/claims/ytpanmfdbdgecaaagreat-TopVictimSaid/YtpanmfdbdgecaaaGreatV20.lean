/- The reference's SipHash: a round. (The walk is printed by refround.py.) · The reference's SipHash: the sum of 15 bytes is the program's. · The reference: a flow's key, whither it falls. · The reference: whither a flow falls. · Whether two flows fall apart. -/
import Derived.Test.YtpanmfdbdgecaaaGreatV19
namespace Go.Proofs.YtpanmfdbdgecaaaGreat.C
open Go.RowKit
set_option linter.unusedVariables false
/-- Four numbers, as an array. -/
structure V4 (w : World) (sb : Nat) (a b c d : Int) : Prop where
  row : w.heap[sb]? = some (.cells #[.int .u64 a, .int .u64 b, .int .u64 c, .int .u64 d] 310 (0, 0))
section
variable {w : World} {sb : Nat} {a b c d : Int}
theorem V4.cells (h : V4 w sb a b c d) : w.cell? ⟨sb, 0, none⟩ = some (.int .u64 a) ∧ w.cell? ⟨sb, 1, none⟩ = some (.int .u64 b) ∧ w.cell? ⟨sb, 2, none⟩ = some (.int .u64 c) ∧ w.cell? ⟨sb, 3, none⟩ = some (.int .u64 d) ∧ w.frozen? ⟨sb, 0, none⟩ = false ∧ w.frozen? ⟨sb, 1, none⟩ = false ∧ w.frozen? ⟨sb, 2, none⟩ = false ∧ w.frozen? ⟨sb, 3, none⟩ = false := by
  rw [cell_of_row _ _ _ _ _ _ h.row, cell_of_row _ _ _ _ _ _ h.row, cell_of_row _ _ _ _ _ _ h.row, cell_of_row _ _ _ _ _ _ h.row]
  exact ⟨rfl, rfl, rfl, rfl, frozen_of_row _ _ _ _ _ h.row, frozen_of_row _ _ _ _ _ h.row, frozen_of_row _ _ _ _ _ h.row, frozen_of_row _ _ _ _ _ h.row⟩
theorem V4.drew (h : V4 w sb a b c d) : V4 w.drew sb a b c d := ⟨h.row⟩
theorem V4.set0 (h : V4 w sb a b c d) (x : Int) : V4 (w.setCell ⟨sb, 0, none⟩ (.int .u64 x)) sb x b c d := ⟨heap_setCell_same _ _ 0 _ _ _ h.row⟩
theorem V4.set1 (h : V4 w sb a b c d) (x : Int) : V4 (w.setCell ⟨sb, 1, none⟩ (.int .u64 x)) sb a x c d := ⟨heap_setCell_same _ _ 1 _ _ _ h.row⟩
theorem V4.set2 (h : V4 w sb a b c d) (x : Int) : V4 (w.setCell ⟨sb, 2, none⟩ (.int .u64 x)) sb a b x d := ⟨heap_setCell_same _ _ 2 _ _ _ h.row⟩
theorem V4.set3 (h : V4 w sb a b c d) (x : Int) : V4 (w.setCell ⟨sb, 3, none⟩ (.int .u64 x)) sb a b c x := ⟨heap_setCell_same _ _ 3 _ _ _ h.row⟩
theorem V4.below {w' : World} (h : V4 w sb a b c d) (p : Below w.heap.size w w') : V4 w' sb a b c d := ⟨keep_block p h.row⟩
theorem V4.load (h : V4 w sb a b c d) : (Instr.loadAt 310 (.pointer (some ⟨sb, 0, none⟩))).run Tryz.prog w = .ok (.agg #[.int .u64 a, .int .u64 b, .int .u64 c, .int .u64 d]) w := box_load (t := 310) h.row _ Tryz.underlying310 rfl (by kernel_rfl)
end
def A4Z : Array Value := #[.int .u64 0, .int .u64 0, .int .u64 0, .int .u64 0]
theorem a4_zero : (Tryz.prog.info? 310).map (fun i => (i.zero, i.size)) = some (some (.agg A4Z), 4) := by kernel_rfl
theorem a4_size : (Tryz.prog.info? 310).map (·.size) = some 4 := by kernel_rfl
set_option maxRecDepth 100000 in
set_option maxHeartbeats 4000000 in
theorem r_round (a0 b0 c0 d0 : Int) (w : World) :
    Calls Tryz.prog 148 #[.agg #[.int .u64 a0, .int .u64 b0, .int .u64 c0, .int .u64 d0]] w fun e w' => e = .returned (.agg #[.int .u64 (sipR ⟨a0, b0, c0, d0⟩).a, .int .u64 (sipR ⟨a0, b0, c0, d0⟩).b, .int .u64 (sipR ⟨a0, b0, c0, d0⟩).c, .int .u64 (sipR ⟨a0, b0, c0, d0⟩).d]) ∧ Below w.heap.size w w' := by
  obtain ⟨AZ, hAZ⟩ : ∃ z, A4Z = z := ⟨_, rfl⟩
  have haz := a4_zero
  have hazs : AZ.size = 4 := by rw [← hAZ]; rfl
  rw [hAZ] at haz
  have HAZ := Lib.hid haz
  have HAS := Lib.hid hazs
  clear haz hazs hAZ
  go_enter Tryz.func148, Tryz.ntmps148
  go_upto_region 1 with (first | ((with_reducible refine arm_box 1 0 310 #[.int .u64 a0, .int .u64 b0, .int .u64 c0, .int .u64 d0] ?_ ?_); rfl; intro w1 HB1 HX1 HS1) | ((with_reducible refine arm_alloc 2 310 AZ 4 HAZ.out ?_); intro w2 HB2 HX2 HS2))
  have h0 : V4 w2 w.heap.size a0 b0 c0 d0 := ⟨keep_block HB2.out HX1.out⟩
  have t0 : Below w.heap.size w w2 := HB1.out.trans (HB2.out.mono HB1.out.size)
  have hlt : w.heap.size < w1.heap.size := (Array.getElem?_eq_some_iff.1 HX1.out).1
  obtain ⟨sb, hsb⟩ : ∃ k, k = w.heap.size := ⟨_, rfl⟩
  obtain ⟨rb, hrb⟩ : ∃ k, k = w1.heap.size := ⟨_, rfl⟩
  have r0_ : w2.heap[rb]? = some (.cells AZ 310 (0, 0)) := by rw [hrb]; exact HX2.out
  have HSB := Lib.hid (show w.heap.size ≤ sb from Nat.le_of_eq hsb.symm)
  have HRB := Lib.hid (show w.heap.size ≤ rb by omega)
  have HNE := Lib.hid (show rb ≠ sb by omega)
  rw [← hsb] at h0 ⊢
  rw [← hrb]
  clear HB1 HX1 HS1 HB2 HX2 HS2 hlt hsb hrb
  generalize w2 = v at *
  obtain ⟨e0, e1, e2, e3, f0, f1, f2, f3⟩ := h0.cells
  obtain ⟨a1, q0⟩ : ∃ x, IntKind.u64.wrap (a0 + b0) = x := ⟨_, rfl⟩
  have h1 : V4 (v.setCell ⟨sb, 0, none⟩ (.int .u64 a1)) sb a1 b0 c0 d0 := (h0.set0 a1)
  have t1 : Below w.heap.size w (v.setCell ⟨sb, 0, none⟩ (.int .u64 a1)) := (t0.setCell (p := ⟨sb, 0, none⟩) HSB.out _)
  have r1_ : (v.setCell ⟨sb, 0, none⟩ (.int .u64 a1)).heap[rb]? = some (.cells AZ 310 (0, 0)) := (heap_setCell_other _ _ _ _ HNE.out).trans r0_
  have HQ0 := Lib.hid q0
  go_upto_region 2 with (fail)
  clear q0
  clear e0 e1 e2 e3 f0 f1 f2 f3 h0 t0 r0_
  generalize (v.setCell ⟨sb, 0, none⟩ (.int .u64 a1)) = v0 at *
  obtain ⟨e0, e1, e2, e3, f0, f1, f2, f3⟩ := h1.cells
  obtain ⟨r1, p1⟩ : ∃ x, rotl13 b0 = x := ⟨_, rfl⟩
  obtain ⟨b1, q1⟩ : ∃ x, bits BinOp.xor IntKind.u64 r1 a1 = x := ⟨_, rfl⟩
  have C1 := r_turn13 b0
  rw [p1] at C1
  have HC1 := Lib.hid C1
  have HP1 := Lib.hid p1
  clear C1 p1
  go_wp2_with fail
  refine wp_region_still_tail 7 (by kernel_rfl) (by kernel_rfl) ?_
  simp only [List.take_succ_cons, List.take_zero, List.drop_succ_cons, List.drop_zero]
  iterate 2 still_step
  still_call (HC1.out _)
  iterate 4 still_step
  refine wpStill_nil ?_
  change wpList _ _ _ _ _ v0.drew
  have h2 : V4 (v0.setCell ⟨sb, 1, none⟩ (.int .u64 b1)).drew sb a1 b1 c0 d0 := (h1.set1 b1).drew
  have t2 : Below w.heap.size w (v0.setCell ⟨sb, 1, none⟩ (.int .u64 b1)).drew := (t1.setCell (p := ⟨sb, 1, none⟩) HSB.out _).drew
  have r2_ : (v0.setCell ⟨sb, 1, none⟩ (.int .u64 b1)).drew.heap[rb]? = some (.cells AZ 310 (0, 0)) := (heap_setCell_other _ _ _ _ HNE.out).trans r1_
  have HQ1 := Lib.hid q1
  go_upto_region 3 with (fail)
  clear q1
  clear e0 e1 e2 e3 f0 f1 f2 f3 h1 t1 r1_
  generalize (v0.setCell ⟨sb, 1, none⟩ (.int .u64 b1)).drew = v1 at *
  obtain ⟨e0, e1, e2, e3, f0, f1, f2, f3⟩ := h2.cells
  obtain ⟨a2, q2⟩ : ∃ x, rotl32 a1 = x := ⟨_, rfl⟩
  have C2 := r_turn32 a1
  rw [q2] at C2
  have HC2 := Lib.hid C2
  clear C2
  have HQ2 := Lib.hid q2
  clear q2
  go_wp2_with fail
  refine (HC2.out _).mono ?_
  rintro e w2 ⟨rfl, hw⟩
  replace hw := hw.symm
  subst hw
  have h3 : V4 (v1.setCell ⟨sb, 0, none⟩ (.int .u64 a2)) sb a2 b1 c0 d0 := (h2.set0 a2)
  have t3 : Below w.heap.size w (v1.setCell ⟨sb, 0, none⟩ (.int .u64 a2)) := (t2.setCell (p := ⟨sb, 0, none⟩) HSB.out _)
  have r3_ : (v1.setCell ⟨sb, 0, none⟩ (.int .u64 a2)).heap[rb]? = some (.cells AZ 310 (0, 0)) := (heap_setCell_other _ _ _ _ HNE.out).trans r2_
  go_upto_region 4 with (fail)
  clear e0 e1 e2 e3 f0 f1 f2 f3 h2 t2 r2_
  generalize (v1.setCell ⟨sb, 0, none⟩ (.int .u64 a2)) = v2 at *
  obtain ⟨e0, e1, e2, e3, f0, f1, f2, f3⟩ := h3.cells
  obtain ⟨c1, q3⟩ : ∃ x, IntKind.u64.wrap (c0 + d0) = x := ⟨_, rfl⟩
  have h4 : V4 (v2.setCell ⟨sb, 2, none⟩ (.int .u64 c1)) sb a2 b1 c1 d0 := (h3.set2 c1)
  have t4 : Below w.heap.size w (v2.setCell ⟨sb, 2, none⟩ (.int .u64 c1)) := (t3.setCell (p := ⟨sb, 2, none⟩) HSB.out _)
  have r4_ : (v2.setCell ⟨sb, 2, none⟩ (.int .u64 c1)).heap[rb]? = some (.cells AZ 310 (0, 0)) := (heap_setCell_other _ _ _ _ HNE.out).trans r3_
  have HQ3 := Lib.hid q3
  go_upto_region 5 with (fail)
  clear q3
  clear e0 e1 e2 e3 f0 f1 f2 f3 h3 t3 r3_
  generalize (v2.setCell ⟨sb, 2, none⟩ (.int .u64 c1)) = v3 at *
  obtain ⟨e0, e1, e2, e3, f0, f1, f2, f3⟩ := h4.cells
  obtain ⟨r4, p4⟩ : ∃ x, rotl16 d0 = x := ⟨_, rfl⟩
  obtain ⟨d1, q4⟩ : ∃ x, bits BinOp.xor IntKind.u64 r4 c1 = x := ⟨_, rfl⟩
  have C4 := r_turn16 d0
  rw [p4] at C4
  have HC4 := Lib.hid C4
  have HP4 := Lib.hid p4
  clear C4 p4
  go_wp2_with fail
  refine wp_region_still_tail 7 (by kernel_rfl) (by kernel_rfl) ?_
  simp only [List.take_succ_cons, List.take_zero, List.drop_succ_cons, List.drop_zero]
  iterate 2 still_step
  still_call (HC4.out _)
  iterate 4 still_step
  refine wpStill_nil ?_
  change wpList _ _ _ _ _ v3.drew
  have h5 : V4 (v3.setCell ⟨sb, 3, none⟩ (.int .u64 d1)).drew sb a2 b1 c1 d1 := (h4.set3 d1).drew
  have t5 : Below w.heap.size w (v3.setCell ⟨sb, 3, none⟩ (.int .u64 d1)).drew := (t4.setCell (p := ⟨sb, 3, none⟩) HSB.out _).drew
  have r5_ : (v3.setCell ⟨sb, 3, none⟩ (.int .u64 d1)).drew.heap[rb]? = some (.cells AZ 310 (0, 0)) := (heap_setCell_other _ _ _ _ HNE.out).trans r4_
  have HQ4 := Lib.hid q4
  go_upto_region 6 with (fail)
  clear q4
  clear e0 e1 e2 e3 f0 f1 f2 f3 h4 t4 r4_
  generalize (v3.setCell ⟨sb, 3, none⟩ (.int .u64 d1)).drew = v4 at *
  obtain ⟨e0, e1, e2, e3, f0, f1, f2, f3⟩ := h5.cells
  obtain ⟨a3, q5⟩ : ∃ x, IntKind.u64.wrap (a2 + d1) = x := ⟨_, rfl⟩
  have h6 : V4 (v4.setCell ⟨sb, 0, none⟩ (.int .u64 a3)) sb a3 b1 c1 d1 := (h5.set0 a3)
  have t6 : Below w.heap.size w (v4.setCell ⟨sb, 0, none⟩ (.int .u64 a3)) := (t5.setCell (p := ⟨sb, 0, none⟩) HSB.out _)
  have r6_ : (v4.setCell ⟨sb, 0, none⟩ (.int .u64 a3)).heap[rb]? = some (.cells AZ 310 (0, 0)) := (heap_setCell_other _ _ _ _ HNE.out).trans r5_
  have HQ5 := Lib.hid q5
  go_upto_region 7 with (fail)
  clear q5
  clear e0 e1 e2 e3 f0 f1 f2 f3 h5 t5 r5_
  generalize (v4.setCell ⟨sb, 0, none⟩ (.int .u64 a3)) = v5 at *
  obtain ⟨e0, e1, e2, e3, f0, f1, f2, f3⟩ := h6.cells
  obtain ⟨r6, p6⟩ : ∃ x, rotl21 d1 = x := ⟨_, rfl⟩
  obtain ⟨d2, q6⟩ : ∃ x, bits BinOp.xor IntKind.u64 r6 a3 = x := ⟨_, rfl⟩
  have C6 := r_turn21 d1
  rw [p6] at C6
  have HC6 := Lib.hid C6
  have HP6 := Lib.hid p6
  clear C6 p6
  go_wp2_with fail
  refine wp_region_still_tail 7 (by kernel_rfl) (by kernel_rfl) ?_
  simp only [List.take_succ_cons, List.take_zero, List.drop_succ_cons, List.drop_zero]
  iterate 2 still_step
  still_call (HC6.out _)
  iterate 4 still_step
  refine wpStill_nil ?_
  change wpList _ _ _ _ _ v5.drew
  have h7 : V4 (v5.setCell ⟨sb, 3, none⟩ (.int .u64 d2)).drew sb a3 b1 c1 d2 := (h6.set3 d2).drew
  have t7 : Below w.heap.size w (v5.setCell ⟨sb, 3, none⟩ (.int .u64 d2)).drew := (t6.setCell (p := ⟨sb, 3, none⟩) HSB.out _).drew
  have r7_ : (v5.setCell ⟨sb, 3, none⟩ (.int .u64 d2)).drew.heap[rb]? = some (.cells AZ 310 (0, 0)) := (heap_setCell_other _ _ _ _ HNE.out).trans r6_
  have HQ6 := Lib.hid q6
  go_upto_region 8 with (fail)
  clear q6
  clear e0 e1 e2 e3 f0 f1 f2 f3 h6 t6 r6_
  generalize (v5.setCell ⟨sb, 3, none⟩ (.int .u64 d2)).drew = v6 at *
  obtain ⟨e0, e1, e2, e3, f0, f1, f2, f3⟩ := h7.cells
  obtain ⟨c2, q7⟩ : ∃ x, IntKind.u64.wrap (c1 + b1) = x := ⟨_, rfl⟩
  have h8 : V4 (v6.setCell ⟨sb, 2, none⟩ (.int .u64 c2)) sb a3 b1 c2 d2 := (h7.set2 c2)
  have t8 : Below w.heap.size w (v6.setCell ⟨sb, 2, none⟩ (.int .u64 c2)) := (t7.setCell (p := ⟨sb, 2, none⟩) HSB.out _)
  have r8_ : (v6.setCell ⟨sb, 2, none⟩ (.int .u64 c2)).heap[rb]? = some (.cells AZ 310 (0, 0)) := (heap_setCell_other _ _ _ _ HNE.out).trans r7_
  have HQ7 := Lib.hid q7
  go_upto_region 9 with (fail)
  clear q7
  clear e0 e1 e2 e3 f0 f1 f2 f3 h7 t7 r7_
  generalize (v6.setCell ⟨sb, 2, none⟩ (.int .u64 c2)) = v7 at *
  obtain ⟨e0, e1, e2, e3, f0, f1, f2, f3⟩ := h8.cells
  obtain ⟨r8, p8⟩ : ∃ x, rotl17 b1 = x := ⟨_, rfl⟩
  obtain ⟨b2, q8⟩ : ∃ x, bits BinOp.xor IntKind.u64 r8 c2 = x := ⟨_, rfl⟩
  have C8 := r_turn17 b1
  rw [p8] at C8
  have HC8 := Lib.hid C8
  have HP8 := Lib.hid p8
  clear C8 p8
  go_wp2_with fail
  refine wp_region_still_tail 7 (by kernel_rfl) (by kernel_rfl) ?_
  simp only [List.take_succ_cons, List.take_zero, List.drop_succ_cons, List.drop_zero]
  iterate 2 still_step
  still_call (HC8.out _)
  iterate 4 still_step
  refine wpStill_nil ?_
  change wpList _ _ _ _ _ v7.drew
  have h9 : V4 (v7.setCell ⟨sb, 1, none⟩ (.int .u64 b2)).drew sb a3 b2 c2 d2 := (h8.set1 b2).drew
  have t9 : Below w.heap.size w (v7.setCell ⟨sb, 1, none⟩ (.int .u64 b2)).drew := (t8.setCell (p := ⟨sb, 1, none⟩) HSB.out _).drew
  have r9_ : (v7.setCell ⟨sb, 1, none⟩ (.int .u64 b2)).drew.heap[rb]? = some (.cells AZ 310 (0, 0)) := (heap_setCell_other _ _ _ _ HNE.out).trans r8_
  have HQ8 := Lib.hid q8
  go_upto_region 10 with (fail)
  clear q8
  clear e0 e1 e2 e3 f0 f1 f2 f3 h8 t8 r8_
  generalize (v7.setCell ⟨sb, 1, none⟩ (.int .u64 b2)).drew = v8 at *
  obtain ⟨e0, e1, e2, e3, f0, f1, f2, f3⟩ := h9.cells
  obtain ⟨c3, q9⟩ : ∃ x, rotl32 c2 = x := ⟨_, rfl⟩
  have C9 := r_turn32 c2
  rw [q9] at C9
  have HC9 := Lib.hid C9
  clear C9
  have HQ9 := Lib.hid q9
  clear q9
  go_wp2_with fail
  refine (HC9.out _).mono ?_
  rintro e w9 ⟨rfl, hw⟩
  replace hw := hw.symm
  subst hw
  have h10 : V4 (v8.setCell ⟨sb, 2, none⟩ (.int .u64 c3)) sb a3 b2 c3 d2 := (h9.set2 c3)
  have t10 : Below w.heap.size w (v8.setCell ⟨sb, 2, none⟩ (.int .u64 c3)) := (t9.setCell (p := ⟨sb, 2, none⟩) HSB.out _)
  have r10_ : (v8.setCell ⟨sb, 2, none⟩ (.int .u64 c3)).heap[rb]? = some (.cells AZ 310 (0, 0)) := (heap_setCell_other _ _ _ _ HNE.out).trans r9_
  go_upto_region 11 with (fail)
  clear e0 e1 e2 e3 f0 f1 f2 f3 h9 t9 r9_
  generalize (v8.setCell ⟨sb, 2, none⟩ (.int .u64 c3)) = v9 at *
  have hld := h10.load
  have HH := Lib.hid h10
  have HT := Lib.hid t10
  have hst := box_store (t := 310) (x := #[.int .u64 a3, .int .u64 b2, .int .u64 c3, .int .u64 d2]) r10_ a4_size (by kernel_rfl) HAS.out
  have hbx := Lib.hid (box_whole (cs := #[.int .u64 a3, .int .u64 b2, .int .u64 c3, .int .u64 d2]) r10_ HAS.out.symm)
  have hfb := Lib.hid (below_setCells (b := rb) HRB.out (#[.int .u64 a3, .int .u64 b2, .int .u64 c3, .int .u64 d2] : Array Value).toList 0 HT.out)
  have hfin : sipR ⟨a0, b0, c0, d0⟩ = ⟨a3, b2, c3, d2⟩ := by
    unfold sipR
    simp only [HQ0.out, HP1.out, HQ1.out, HQ2.out, HQ3.out, HP4.out, HQ4.out, HQ5.out, HP6.out, HQ6.out, HQ7.out, HP8.out, HQ8.out, HQ9.out]
  have HFIN := Lib.hid hfin
  clear h10 t10 r10_ hfin
  go_wp2_with (first | ((with_reducible refine arm_load 63 1 310 _ _ hld ?_ ?_); rfl) | ((with_reducible refine arm_store 2 63 310 _ _ _ hst ?_ ?_ ?_); rfl; rfl))
  refine bodyPost_ret (results_cell_row rfl _ _ _ _ _ _ _ rfl hbx.out Tryz.underlying310 rfl (by first | exact a4_size | rfl)) rfl ?_
  refine ⟨?_, hfb.out⟩
  rw [HFIN.out]
end Go.Proofs.YtpanmfdbdgecaaaGreat.C

namespace Go.Proofs.YtpanmfdbdgecaaaGreat.C
open Go.RowKit
set_option linter.unusedVariables false
/-- What is summed: the bytes, and how many they are. -/
def padF (F : Nat → Nat) (j : Nat) : Nat := if j < 15 then F j else 15
theorem padF_lt {F : Nat → Nat} (h : ∀ j, F j < 256) (j : Nat) : padF F j < 256 := by
  unfold padF
  split
  · exact h j
  · decide
/-- The state behind so many words. -/
def refS (K F : Nat → Nat) : Nat → SipS
  | 0 => sipI (numP K 8) (numP (fun j => K (8 + j)) 8)
  | t + 1 => sipW (refS K F t) (numP (fun j => padF F (8 * t + j)) 8)
theorem ref_sum (K F : Nat → Nat) : sipSum K F 15 = sipE (refS K F 2) := by
  unfold sipSum
  congr 1
set_option maxRecDepth 100000 in
set_option maxHeartbeats 4000000 in
theorem r_sum (kv : Array Value) (K : Nat → Nat) (g o c : Nat) (F : Nat → Nat) (w : World) (hk : Key16 kv K) (hKb : ∀ j, K j < 256) (h : FrAt w g o 15 c F) :
    Calls Tryz.prog 91 #[.agg kv, .slice (some ⟨g, o, none⟩) 15 c] w fun e w' => e = .returned (.int .u64 (sipSum K F 15)) ∧ Below w.heap.size w w' := by
  rw [ref_sum]
  obtain ⟨i0, hi, hz0, hz1, hz2⟩ := info_parts u8_info
  have Hi := Lib.hid hi
  have Hz0 := Lib.hid hz0
  have Hz1 := Lib.hid hz1
  have Hz2 := Lib.hid hz2
  have HK := Lib.hid hk
  have HF := Lib.hid h
  obtain ⟨AZ, hAZ⟩ : ∃ z, A4Z = z := ⟨_, rfl⟩
  have haz := a4_zero
  have hazs : AZ.size = 4 := by rw [← hAZ]; rfl
  rw [hAZ] at haz
  have HAZ := Lib.hid haz
  have HAS := Lib.hid hazs
  obtain ⟨k0, hk0⟩ : ∃ x, numP K 8 = x := ⟨_, rfl⟩
  obtain ⟨k1, hk1⟩ : ∃ x, numP (fun j => K (8 + j)) 8 = x := ⟨_, rfl⟩
  have HK0 := Lib.hid hk0
  have HK1 := Lib.hid hk1
  have HKB := Lib.hid hKb
  clear hi hz0 hz1 hz2 haz hazs hAZ hk0 hk1 h hKb
  go_enter Tryz.func91, Tryz.ntmps91
  go_upto_region 1 with ((with_reducible refine arm_box 2 0 22 kv ?_ ?_); rfl; intro w1 HB HX HS)
  have N0 : Hid (Calls Tryz.prog 147 #[.slice (some ⟨w.heap.size, 0, none⟩) 8 16] w1.drew fun e w' => e = .returned (.int .u64 k0) ∧ w' = w1.drew) := Lib.hid (by
    have := r_word w.heap.size 0 16 K w1.drew HKB.out (fun j hj => by rw [Nat.zero_add]; exact cells_of_row (w := w1.drew) HX.out j _ (HK.out.at16 j (by omega)))
    rw [HK0.out] at this
    exact this)
  have N1 : Hid (Calls Tryz.prog 147 #[.slice (some ⟨w.heap.size, 8, none⟩) 8 8] w1.drew fun e w' => e = .returned (.int .u64 k1) ∧ w' = w1.drew) := Lib.hid (by
    have := r_word w.heap.size 8 8 (fun j => K (8 + j)) w1.drew (fun j => HKB.out _) (fun j hj => cells_of_row (w := w1.drew) HX.out (8 + j) _ (HK.out.at16 (8 + j) (by omega)))
    rw [HK1.out] at this
    exact this)
  go_wp2_with fail
  refine wp_region_held_drew (S := fun w' => w' = w1.drew) (by kernel_rfl) rfl (fun hHeld => ?_)
  refine wpAnyH_take (i := 0) (oi := ⟨some 11, _, _, _, _, _⟩) (v := ?_) rfl (by kernel_rfl) (by kernel_rfl) (by kernel_rfl) (fun _ _ _ h => h) (Or.inl ⟨by rfl, ?_⟩) hHeld ?_
  rotate_left
  · intro w hSw
    go_simp
    try with_reducible rfl
  try simp only [Act.put, List.setIfInBounds_toArray, List.set_cons_zero, List.set_cons_succ]
  refine wpAnyH_take (i := 2) (oi := ⟨some 13, _, _, _, _, _⟩) (v := ?_) rfl (by kernel_rfl) (by kernel_rfl) (by kernel_rfl) (fun _ _ _ h => h) (Or.inl ⟨by rfl, ?_⟩) hHeld ?_
  rotate_left
  · intro w hSw
    go_simp
    try with_reducible rfl
  try simp only [Act.put, List.setIfInBounds_toArray, List.set_cons_zero, List.set_cons_succ]
  refine wpAnyH_ready (rs := [1]) (by kernel_rfl) (by simp) ?_
  refine AllReadyH.cons rfl (fun K hK => ?_) AllReadyH.nil
  go_simp
  go_wp2_with (go_at_call 147; go_must (refine (N0.out).mono ?_; rintro e w1 ⟨rfl, rfl⟩))
  refine hK.out _ _ (rfl) (fun hHeld => ?_)
  clear hK K
  refine wpAnyH_ready (rs := [3]) (by kernel_rfl) (by simp) ?_
  refine AllReadyH.cons rfl (fun K hK => ?_) AllReadyH.nil
  go_simp
  go_wp2_with (go_at_call 147; go_must (refine (N1.out).mono ?_; rintro e w3 ⟨rfl, rfl⟩))
  refine hK.out _ _ (rfl) (fun hHeld => ?_)
  clear hK K
  refine wpAnyH_take (i := 4) (oi := ⟨some 5, _, _, _, _, _⟩) (v := ?_) rfl (by kernel_rfl) (by kernel_rfl) (by kernel_rfl) (fun _ _ _ h => h) (Or.inl ⟨by rfl, ?_⟩) hHeld ?_
  rotate_left
  · intro w hSw
    go_simp
    try with_reducible rfl
  try simp only [Act.put, List.setIfInBounds_toArray, List.set_cons_zero, List.set_cons_succ]
  refine wpAnyH_take (i := 5) (oi := ⟨some 6, _, _, _, _, _⟩) (v := ?_) rfl (by kernel_rfl) (by kernel_rfl) (by kernel_rfl) (fun _ _ _ h => h) (Or.inl ⟨by rfl, ?_⟩) hHeld ?_
  rotate_left
  · intro w hSw
    go_simp
    try with_reducible rfl
  try simp only [Act.put, List.setIfInBounds_toArray, List.set_cons_zero, List.set_cons_succ]
  refine wpAnyH_done (by kernel_rfl) ?_ _
  obtain ⟨x0, q0⟩ : ∃ x, bits BinOp.xor IntKind.u64 k0 8317987319222330741 = x := ⟨_, rfl⟩
  obtain ⟨x1, q1⟩ : ∃ x, bits BinOp.xor IntKind.u64 k1 7237128888997146477 = x := ⟨_, rfl⟩
  obtain ⟨x2, q2⟩ : ∃ x, bits BinOp.xor IntKind.u64 k0 7816392313619706465 = x := ⟨_, rfl⟩
  obtain ⟨x3, q3⟩ : ∃ x, bits BinOp.xor IntKind.u64 k1 8387220255154660723 = x := ⟨_, rfl⟩
  have hI : refS K F 0 = ⟨x0, x1, x2, x3⟩ := by
    show sipI (numP K 8) (numP (fun j => K (8 + j)) 8) = _
    rw [HK0.out, HK1.out]
    unfold sipI xorU
    rw [q0, q1, q2, q3]
  have HI := Lib.hid hI
  have hbl : ∀ w' : World, (Instr.build 310 #[(0, .int .u64 x0), (1, .int .u64 x1), (2, .int .u64 x2), (3, .int .u64 x3)]).run Tryz.prog w' = .ok (.agg #[.int .u64 x0, .int .u64 x1, .int .u64 x2, .int .u64 x3]) w' := fun w' => run_build w' 310 _ _ (by kernel_rfl)
  have HBD := Lib.hid (HB.out.drew)
  clear hI hHeld N0 N1 HX HS HB
  generalize w1.drew = v1 at *
  go_upto_region 3 with (first
    | ((with_reducible refine arm_build 23 310 _ #[(0, .int .u64 x0), (1, .int .u64 x1), (2, .int .u64 x2), (3, .int .u64 x3)] _ (hbl _) ?_ ?_); (first | rfl | simp [Act.eval]))
    | ((with_reducible refine arm_alloc 7 310 AZ 4 HAZ.out ?_); intro w2 HB2 HX2 HS2; have hst := box_store (t := 310) (x := #[.int .u64 x0, .int .u64 x1, .int .u64 x2, .int .u64 x3]) HX2.out a4_size (by kernel_rfl) HAS.out)
    | ((with_reducible refine arm_store 7 23 310 _ _ _ hst ?_ ?_ ?_); rfl; rfl))
  have hX2 := box_whole (cs := #[.int .u64 x0, .int .u64 x1, .int .u64 x2, .int .u64 x3]) HX2.out HAS.out.symm
  have hB2 := below_setCells (b := v1.heap.size) (Nat.le_refl _) (#[.int .u64 x0, .int .u64 x1, .int .u64 x2, .int .u64 x3] : Array Value).toList 0 HB2.out
  have hV2 : V4 (w2.setCells v1.heap.size 0 (#[.int .u64 x0, .int .u64 x1, .int .u64 x2, .int .u64 x3] : Array Value).toList) v1.heap.size x0 x1 x2 x3 := ⟨hX2⟩
  clear hst HB2 HX2 HS2 hX2 q0 q1 q2 q3 hbl
  generalize w2.setCells v1.heap.size 0 _ = v2 at *
  obtain ⟨ab, hab⟩ : ∃ k, k = v1.heap.size := ⟨_, rfl⟩
  have hgs := HF.out.blk
  have HB3 := Lib.hid (HBD.out.trans (hB2.mono HBD.out.size))
  have HAB := Lib.hid (show w.heap.size ≤ ab from hab ▸ HBD.out.size)
  rw [← hab] at hV2 ⊢
  have HV := Lib.hid hV2
  clear hV2 hB2 hab HBD
  have HFV := Lib.hid (HF.out.below hgs HB3.out (Nat.le_refl _))
  clear hgs
  go_wp2_with (at_builtin; go_must (refine wpList_append_own_at _ rfl (.tmp 24) (.tmp 25) 37 rfl w.heap.size 5 i0 (.int .u8 0) 1 1 Tryz.underlying37 Hi.out Hz0.out Hz1.out Hz2.out rfl (by omega) (.slice (some ⟨v2.heap.size, 0, none⟩) 0 0) 0 [] rfl (by exact OW.empty (Go.heap_alloc_new v2 _) HB3.out.size) ⟨g, o, none⟩ 15 c (bv ((List.range 15).map F)) rfl ?hl ?hn bv_one ?h63 ?hb ?hbase ?next))
  case hl => rw [bv_len]; simp
  case hn =>
    intro j v hv
    have hj : j < 15 := by have := lt_of_some hv; rw [bv_len] at this; simpa using this
    have e : v = .int .u8 (F j : Nat) := by
      simp [bv, List.getElem?_map, List.getElem?_range hj] at hv
      exact hv.symm
    rw [OW.addr_off, e]
    have hb := HFV.out.blk
    rw [World.cell?_of_block (Go.heap_alloc_old v2 _ hb)]
    exact HFV.out.cell j hj
  case h63 => simp only [maxLen]; omega
  case hb => omega
  case hbase => simp; have := HB3.out.size; omega
  case next =>
    intro v' w3 hown hg _ hat
    obtain ⟨A3, c3, rfl⟩ := OW.slice hown
    have hown3 : w3.ownsRow w.heap.size 5 1 (.slice A3 15 c3) 15 (bv ((List.range 15).map F)) := hown
    have hBa : Below v2.heap.size v2 (v2.alloc (.cells #[] 5)) := (Below.refl _ _).alloc (Nat.le_refl _) _
    have hV3 : V4 w3 ab x0 x1 x2 x3 := ⟨by
      have h1 := (HV.out.below hBa).row
      exact (hg.block ab (Array.getElem?_eq_some_iff.1 h1).1 (by
        intro e
        have e2 : ab = v2.heap.size := by simpa [Value.ownBlock] using e
        have := (Array.getElem?_eq_some_iff.1 HV.out.row).1
        omega)).trans h1⟩
    have hB3 : Below w.heap.size w w3 := (HB3.out.alloc HB3.out.size _).grown hg (by simp; have := HB3.out.size; omega) (fun q hq => by
      have : q = v2.heap.size := by simpa [Value.ownBlock] using hq.symm
      have := HB3.out.size
      omega)
    have HO3 := Lib.hid hown3
    have HV3 := Lib.hid hV3
    have HB4 := Lib.hid hB3
    clear hown hown3 hg hat hBa hV3 hB3 HV HB3 HFV
    go_wp2_with fail
    go_loopw [8] (fun s wr => s = .slice A3 15 c3 ∧ w3 = wr) (fun _ _ => 0)
    case atStart => exact ⟨rfl, rfl⟩
    case round =>
      obtain ⟨rfl, rfl⟩ := hrel
      go_wp2_with (at_builtin; go_must (refine wpList_append_own_at _ rfl (.tmp 34) (.tmp 38) 37 rfl w.heap.size 5 i0 (.int .u8 0) 1 1 Tryz.underlying37 Hi.out Hz0.out Hz1.out Hz2.out rfl (by omega) (.slice A3 15 c3) 15 (bv ((List.range 15).map F)) rfl (by exact World.ownsRow.alloc (w := w3) HO3.out _) ⟨w3.heap.size, 0, none⟩ 1 1 [.int .u8 15] rfl ?hl ?hn ?h1c ?h63 ?hb ?hbase ?next))
      case hl => rfl
      case hn =>
        intro j v hv
        rw [OW.addr_off, Nat.zero_add, cell_of_row _ _ _ _ _ _ (Go.heap_alloc_new w3 _)]
        simpa using hv
      case h1c => intro u hu; simp at hu; subst hu; rfl
      case h63 => simp only [maxLen]; omega
      case hb => omega
      case hbase => simp; have := HB4.out.size; omega
      case next =>
        intro v' w4 hown hg _ hat
        obtain ⟨A4, c4, rfl⟩ := OW.slice hown
        have hBa : Below w3.heap.size w3 (w3.alloc (.cells #[.int .u8 15] 5)) := (Below.refl _ _).alloc (Nat.le_refl _) _
        have hne3 : (Value.slice A3 15 c3).ownBlock ≠ some ab := OW.ne_block HO3.out HV3.out.row (by decide)
        have hV4 : V4 w4 ab x0 x1 x2 x3 := ⟨by
          have h1 := (HV3.out.below hBa).row
          exact (hg.block ab (Array.getElem?_eq_some_iff.1 h1).1 (fun e => hne3 e.symm)).trans h1⟩
        have hB4 : Below w.heap.size w w4 := (HB4.out.alloc HB4.out.size _).grown hg (by simp; have := HB4.out.size; omega) (fun q hq => (World.ownsRow.lt HO3.out q hq).1)
        have hown4 : w4.ownsRow w.heap.size 5 1 (.slice A4 16 c4) 16 (bv ((List.range 15).map F ++ [15])) := by
          rw [show bv ((List.range 15).map F ++ [15]) = bv ((List.range 15).map F) ++ [.int .u8 15] by simp [bv]]
          exact hown
        obtain ⟨gq, hgq, hc16⟩ : ∃ gq, A4 = some ⟨gq, 0, none⟩ ∧ 16 ≤ c4 := by
          rcases hown4.2 with ⟨_, h1⟩ | ⟨gq, cap, cur, hv, _, _, h1, _⟩
          · cases h1
          · injection hv with h4 h5 h6
            exact ⟨gq, h4, by omega⟩
        subst hgq
        have hne4 : gq ≠ ab := fun e => OW.ne_block hown4 hV4.row (by decide) (by rw [e]; rfl)
        have hcell : ∀ j, j < 16 → w4.cell? ⟨gq, j, none⟩ = some (.int .u8 (padF F j : Nat)) := fun j hj => by
          have := hown4.cells (g := gq) rfl j (.int .u8 (padF F j : Nat)) (by
            unfold padF bv
            rw [List.getElem?_map]
            by_cases h : j < 15
            · rw [if_pos h, List.getElem?_append_left (by simpa using h), List.getElem?_map, List.getElem?_range h]
              rfl
            · rw [if_neg h, List.getElem?_append_right (by simp; omega)]
              have : j = 15 := by omega
              subst this
              rfl)
          rw [OW.addr_off, Nat.zero_add] at this
          exact this
        have hgl := (World.ownsRow.lt hown4 gq rfl)
        have HCE : Hid (∀ w', Two ab ab w4 w' → ∀ j, j < 16 → w'.cell? ⟨gq, j, none⟩ = some (.int .u8 (padF F j : Nat))) := Lib.hid fun w' q j hj => by
          rw [World.cell?_of_block (q.block gq hgl.2 hne4 hne4)]
          exact hcell j hj
        have HV4 := Lib.hid hV4
        have HB5 := Lib.hid hB4
        have HC16 := Lib.hid hc16
        clear hown hown4 hg hat hBa hne3 hV4 hB4 hcell hgl HO3 HV3 HB4 hne4
        go_wp2_with fail
        go_loopw [9, 10] (fun s _ wr => ∃ t : Nat, t ≤ 2 ∧ s = .int .i64 (8 * (t : Int)) ∧ V4 wr ab (refS K F t).a (refS K F t).b (refS K F t).c (refS K F t).d ∧ Two ab ab w4 wr) (fun s _ _ => (16 - intOf s).toNat)
        case atStart => exact ⟨0, by omega, rfl, by rw [HI.out]; exact HV4.out, Two.refl _ _ _⟩
        case round =>
          obtain ⟨t, ht, rfl, hV, hT⟩ := hrel
          clear HV4
          rcases (show t = 0 ∨ t = 1 ∨ t = 2 by omega) with rfl | rfl | rfl
          · have e8 : (8 * ((0 : Nat) : Int)) = 0 := rfl
            rw [e8]
            have hc16 := HC16.out
            have hcI : (16 : Int) ≤ (c4 : Int) := by omega
            obtain ⟨m, hm⟩ : ∃ m, numP (fun j => padF F (8 * 0 + j)) 8 = m := ⟨_, rfl⟩
            have hnx : refS K F (0 + 1) = sipW (refS K F 0) m := by rw [← hm]; rfl
            have W0 := r_word gq 0 c4 (fun j => padF F (8 * 0 + j)) wr (fun j => padF_lt (by have := HF.out.byte; exact this) _) (fun j hj => HCE.out _ hT (0 + j) (by omega))
            rw [hm] at W0
            have HW := Lib.hid W0
            obtain ⟨s, hs⟩ : ∃ s, refS K F 0 = s := ⟨_, rfl⟩
            rw [hs] at hV hnx
            obtain ⟨a, b, cc, d⟩ := s
            obtain ⟨y, hy⟩ : ∃ y, bits BinOp.xor IntKind.u64 d m = y := ⟨_, rfl⟩
            obtain ⟨s1, hs1⟩ : ∃ z, sipR ⟨a, b, cc, y⟩ = z := ⟨_, rfl⟩
            have R1 := r_round a b cc y
            rw [hs1] at R1
            obtain ⟨a1, b1, c1, d1⟩ := s1
            obtain ⟨s2, hs2⟩ : ∃ z, sipR ⟨a1, b1, c1, d1⟩ = z := ⟨_, rfl⟩
            have R2 := r_round a1 b1 c1 d1
            rw [hs2] at R2
            obtain ⟨a2, b2, c2, d2⟩ := s2
            obtain ⟨z, hz⟩ : ∃ z, bits BinOp.xor IntKind.u64 a2 m = z := ⟨_, rfl⟩
            have hfin : refS K F (0 + 1) = ⟨z, b2, c2, d2⟩ := by
              rw [hnx]
              unfold sipW
              show SipS.mk (xorU (sipR (sipR ⟨a, b, cc, xorU d m⟩)).a m) (sipR (sipR ⟨a, b, cc, xorU d m⟩)).b (sipR (sipR ⟨a, b, cc, xorU d m⟩)).c (sipR (sipR ⟨a, b, cc, xorU d m⟩)).d = _
              rw [show xorU d m = y from hy, hs1, hs2]
              show SipS.mk (xorU a2 m) b2 c2 d2 = _
              rw [show xorU a2 m = z from hz]
            have HFI := Lib.hid hfin
            have HR1 := Lib.hid R1
            have HR2 := Lib.hid R2
            have HVR := Lib.hid hV
            have HTR := Lib.hid hT
            clear hfin hnx hs hs1 hs2 R1 R2 W0 hm hV hT
            go_wp2_with fail
            refine HW.out.mono ?_
            rintro e w5 ⟨rfl, hw⟩
            replace hw := hw.symm
            subst hw
            obtain ⟨e0, e1, e2, e3, f0, f1, f2, f3⟩ := HVR.out.cells
            have h1 := HVR.out.set3 y
            have t1 := Two.setCell (x := ⟨ab, 3, none⟩) HTR.out (.inl rfl) (.int .u64 y)
            have HY := Lib.hid hy
            go_upto_region 12 with (fail)
            clear hy e0 e1 e2 e3 f0 f1 f2 f3 HW HVR HTR
            generalize wr.setCell ⟨ab, 3, none⟩ (.int .u64 y) = v5 at *
            have hld := h1.load
            have H1 := Lib.hid h1
            have T1 := Lib.hid t1
            clear h1 t1
            go_wp2_with ((with_reducible refine arm_load 57 7 310 _ _ hld ?_ ?_); rfl)
            refine (HR1.out _).mono ?_
            rintro e w6 ⟨rfl, hb6⟩
            clear hld
            go_wp2_with fail
            refine (HR2.out _).mono ?_
            rintro e w7 ⟨rfl, hb7⟩
            have h7 := (H1.out.below hb6).below hb7
            have t7 : Two ab ab w4 w7 := (T1.out.trans (two_ofB hb6)).trans (two_ofB hb7)
            have hst := box_store (t := 310) (x := #[.int .u64 a2, .int .u64 b2, .int .u64 c2, .int .u64 d2]) h7.row a4_size (by kernel_rfl) rfl
            have hbx := box_whole (cs := #[.int .u64 a2, .int .u64 b2, .int .u64 c2, .int .u64 d2]) h7.row rfl
            have t8 : Two ab ab w4 (w7.setCells ab 0 (#[.int .u64 a2, .int .u64 b2, .int .u64 c2, .int .u64 d2] : Array Value).toList) := Two.setCells (g := ab) (h := ab) (.inl rfl) _ 0 t7
            clear hb6 hb7 h7 t7 H1 T1 HR1 HR2
            go_upto_region 13 with ((with_reducible refine arm_store 7 59 310 _ _ _ hst ?_ ?_ ?_); rfl; rfl)
            have h8 : V4 (w7.setCells ab 0 (#[.int .u64 a2, .int .u64 b2, .int .u64 c2, .int .u64 d2] : Array Value).toList) ab a2 b2 c2 d2 := ⟨hbx⟩
            clear hst hbx
            generalize w7.setCells ab 0 _ = v8 at *
            obtain ⟨e0, e1, e2, e3, f0, f1, f2, f3⟩ := h8.cells
            have H9 := Lib.hid (h8.set0 z)
            have T9 := Lib.hid (Two.setCell (x := ⟨ab, 0, none⟩) t8 (.inl rfl) (.int .u64 z))
            clear h8 t8
            go_wp2
            go_roundw
            case rel => exact ⟨0 + 1, by omega, by go_num, by rw [HFI.out]; exact H9.out, T9.out⟩
            case measure => simp [intOf]
          · have e8 : (8 * ((1 : Nat) : Int)) = 8 := rfl
            rw [e8]
            have hc16 := HC16.out
            have hcI : (16 : Int) ≤ (c4 : Int) := by omega
            obtain ⟨m, hm⟩ : ∃ m, numP (fun j => padF F (8 * 1 + j)) 8 = m := ⟨_, rfl⟩
            have hnx : refS K F (1 + 1) = sipW (refS K F 1) m := by rw [← hm]; rfl
            have W0 := r_word gq 8 (c4 - 8) (fun j => padF F (8 * 1 + j)) wr (fun j => padF_lt (by have := HF.out.byte; exact this) _) (fun j hj => HCE.out _ hT (8 + j) (by omega))
            rw [hm] at W0
            have HW := Lib.hid W0
            obtain ⟨s, hs⟩ : ∃ s, refS K F 1 = s := ⟨_, rfl⟩
            rw [hs] at hV hnx
            obtain ⟨a, b, cc, d⟩ := s
            obtain ⟨y, hy⟩ : ∃ y, bits BinOp.xor IntKind.u64 d m = y := ⟨_, rfl⟩
            obtain ⟨s1, hs1⟩ : ∃ z, sipR ⟨a, b, cc, y⟩ = z := ⟨_, rfl⟩
            have R1 := r_round a b cc y
            rw [hs1] at R1
            obtain ⟨a1, b1, c1, d1⟩ := s1
            obtain ⟨s2, hs2⟩ : ∃ z, sipR ⟨a1, b1, c1, d1⟩ = z := ⟨_, rfl⟩
            have R2 := r_round a1 b1 c1 d1
            rw [hs2] at R2
            obtain ⟨a2, b2, c2, d2⟩ := s2
            obtain ⟨z, hz⟩ : ∃ z, bits BinOp.xor IntKind.u64 a2 m = z := ⟨_, rfl⟩
            have hfin : refS K F (1 + 1) = ⟨z, b2, c2, d2⟩ := by
              rw [hnx]
              unfold sipW
              show SipS.mk (xorU (sipR (sipR ⟨a, b, cc, xorU d m⟩)).a m) (sipR (sipR ⟨a, b, cc, xorU d m⟩)).b (sipR (sipR ⟨a, b, cc, xorU d m⟩)).c (sipR (sipR ⟨a, b, cc, xorU d m⟩)).d = _
              rw [show xorU d m = y from hy, hs1, hs2]
              show SipS.mk (xorU a2 m) b2 c2 d2 = _
              rw [show xorU a2 m = z from hz]
            have HFI := Lib.hid hfin
            have HR1 := Lib.hid R1
            have HR2 := Lib.hid R2
            have HVR := Lib.hid hV
            have HTR := Lib.hid hT
            clear hfin hnx hs hs1 hs2 R1 R2 W0 hm hV hT
            go_wp2_with fail
            refine HW.out.mono ?_
            rintro e w5 ⟨rfl, hw⟩
            replace hw := hw.symm
            subst hw
            obtain ⟨e0, e1, e2, e3, f0, f1, f2, f3⟩ := HVR.out.cells
            have h1 := HVR.out.set3 y
            have t1 := Two.setCell (x := ⟨ab, 3, none⟩) HTR.out (.inl rfl) (.int .u64 y)
            have HY := Lib.hid hy
            go_upto_region 12 with (fail)
            clear hy e0 e1 e2 e3 f0 f1 f2 f3 HW HVR HTR
            generalize wr.setCell ⟨ab, 3, none⟩ (.int .u64 y) = v5 at *
            have hld := h1.load
            have H1 := Lib.hid h1
            have T1 := Lib.hid t1
            clear h1 t1
            go_wp2_with ((with_reducible refine arm_load 57 7 310 _ _ hld ?_ ?_); rfl)
            refine (HR1.out _).mono ?_
            rintro e w6 ⟨rfl, hb6⟩
            clear hld
            go_wp2_with fail
            refine (HR2.out _).mono ?_
            rintro e w7 ⟨rfl, hb7⟩
            have h7 := (H1.out.below hb6).below hb7
            have t7 : Two ab ab w4 w7 := (T1.out.trans (two_ofB hb6)).trans (two_ofB hb7)
            have hst := box_store (t := 310) (x := #[.int .u64 a2, .int .u64 b2, .int .u64 c2, .int .u64 d2]) h7.row a4_size (by kernel_rfl) rfl
            have hbx := box_whole (cs := #[.int .u64 a2, .int .u64 b2, .int .u64 c2, .int .u64 d2]) h7.row rfl
            have t8 : Two ab ab w4 (w7.setCells ab 0 (#[.int .u64 a2, .int .u64 b2, .int .u64 c2, .int .u64 d2] : Array Value).toList) := Two.setCells (g := ab) (h := ab) (.inl rfl) _ 0 t7
            clear hb6 hb7 h7 t7 H1 T1 HR1 HR2
            go_upto_region 13 with ((with_reducible refine arm_store 7 59 310 _ _ _ hst ?_ ?_ ?_); rfl; rfl)
            have h8 : V4 (w7.setCells ab 0 (#[.int .u64 a2, .int .u64 b2, .int .u64 c2, .int .u64 d2] : Array Value).toList) ab a2 b2 c2 d2 := ⟨hbx⟩
            clear hst hbx
            generalize w7.setCells ab 0 _ = v8 at *
            obtain ⟨e0, e1, e2, e3, f0, f1, f2, f3⟩ := h8.cells
            have H9 := Lib.hid (h8.set0 z)
            have T9 := Lib.hid (Two.setCell (x := ⟨ab, 0, none⟩) t8 (.inl rfl) (.int .u64 z))
            clear h8 t8
            go_wp2
            go_roundw
            case rel => exact ⟨1 + 1, by omega, by go_num, by rw [HFI.out]; exact H9.out, T9.out⟩
            case measure => simp [intOf]
          · have e8 : (8 * ((2 : Nat) : Int)) = 16 := rfl
            rw [e8]
            obtain ⟨s, hs⟩ : ∃ s, refS K F 2 = s := ⟨_, rfl⟩
            rw [hs] at hV
            obtain ⟨a, b, cc, d⟩ := s
            obtain ⟨y, hy⟩ : ∃ y, bits BinOp.xor IntKind.u64 cc 255 = y := ⟨_, rfl⟩
            obtain ⟨s1, hs1⟩ : ∃ z, sipR ⟨a, b, y, d⟩ = z := ⟨_, rfl⟩
            have R1 := r_round a b y d
            rw [hs1] at R1
            obtain ⟨a1, b1, c1, d1⟩ := s1
            obtain ⟨s2, hs2⟩ : ∃ z, sipR ⟨a1, b1, c1, d1⟩ = z := ⟨_, rfl⟩
            have R2 := r_round a1 b1 c1 d1
            rw [hs2] at R2
            obtain ⟨a2, b2, c2, d2⟩ := s2
            obtain ⟨s3, hs3⟩ : ∃ z, sipR ⟨a2, b2, c2, d2⟩ = z := ⟨_, rfl⟩
            have R3 := r_round a2 b2 c2 d2
            rw [hs3] at R3
            obtain ⟨a3, b3, c3', d3⟩ := s3
            obtain ⟨s4, hs4⟩ : ∃ z, sipR ⟨a3, b3, c3', d3⟩ = z := ⟨_, rfl⟩
            have R4 := r_round a3 b3 c3' d3
            rw [hs4] at R4
            obtain ⟨a4, b4, c4', d4⟩ := s4
            obtain ⟨u1, hu1⟩ : ∃ z, bits BinOp.xor IntKind.u64 a4 b4 = z := ⟨_, rfl⟩
            obtain ⟨u2, hu2⟩ : ∃ z, bits BinOp.xor IntKind.u64 u1 c4' = z := ⟨_, rfl⟩
            obtain ⟨u3, hu3⟩ : ∃ z, bits BinOp.xor IntKind.u64 u2 d4 = z := ⟨_, rfl⟩
            have hfin : sipE (refS K F 2) = u3 := by
              rw [hs]
              unfold sipE
              show xorU (xorU (xorU (sipR (sipR (sipR (sipR ⟨a, b, xorU cc 255, d⟩)))).a (sipR (sipR (sipR (sipR ⟨a, b, xorU cc 255, d⟩)))).b) (sipR (sipR (sipR (sipR ⟨a, b, xorU cc 255, d⟩)))).c) (sipR (sipR (sipR (sipR ⟨a, b, xorU cc 255, d⟩)))).d = _
              rw [show xorU cc 255 = y from hy, hs1, hs2, hs3, hs4]
              show xorU (xorU (xorU a4 b4) c4') d4 = _
              rw [show xorU a4 b4 = u1 from hu1, show xorU u1 c4' = u2 from hu2]
              exact hu3
            have HFIN := Lib.hid hfin
            have HR1 := Lib.hid R1
            have HR2 := Lib.hid R2
            have HR3 := Lib.hid R3
            have HR4 := Lib.hid R4
            clear hfin hs hs1 hs2 hs3 hs4 R1 R2 R3 R4
            obtain ⟨e0, e1, e2, e3, f0, f1, f2, f3⟩ := hV.cells
            have h1 := hV.set2 y
            have t1 := Two.setCell (x := ⟨ab, 2, none⟩) hT (.inl rfl) (.int .u64 y)
            go_upto_region 15 with (fail)
            clear hy e0 e1 e2 e3 f0 f1 f2 f3 hV hT
            generalize wr.setCell ⟨ab, 2, none⟩ (.int .u64 y) = v5 at *
            have hld := h1.load
            have H1 := Lib.hid h1
            have T1 := Lib.hid t1
            clear h1 t1
            go_wp2_with ((with_reducible refine arm_load 69 7 310 _ _ hld ?_ ?_); rfl)
            refine (HR1.out _).mono ?_
            rintro e w6 ⟨rfl, hb6⟩
            clear hld
            go_wp2_with fail
            refine (HR2.out _).mono ?_
            rintro e w7 ⟨rfl, hb7⟩
            go_wp2_with fail
            refine (HR3.out _).mono ?_
            rintro e w8 ⟨rfl, hb8⟩
            go_wp2_with fail
            refine (HR4.out _).mono ?_
            rintro e w9 ⟨rfl, hb9⟩
            have h7 := (((H1.out.below hb6).below hb7).below hb8).below hb9
            have t7 : Two ab ab w4 w9 := (((T1.out.trans (two_ofB hb6)).trans (two_ofB hb7)).trans (two_ofB hb8)).trans (two_ofB hb9)
            have hst := box_store (t := 310) (x := #[.int .u64 a4, .int .u64 b4, .int .u64 c4', .int .u64 d4]) h7.row a4_size (by kernel_rfl) rfl
            have hbx := box_whole (cs := #[.int .u64 a4, .int .u64 b4, .int .u64 c4', .int .u64 d4]) h7.row rfl
            have t8 : Two ab ab w4 (w9.setCells ab 0 (#[.int .u64 a4, .int .u64 b4, .int .u64 c4', .int .u64 d4] : Array Value).toList) := Two.setCells (g := ab) (h := ab) (.inl rfl) _ 0 t7
            clear hb6 hb7 hb8 hb9 h7 t7 H1 T1 HR1 HR2 HR3 HR4
            go_upto_region 16 with ((with_reducible refine arm_store 7 73 310 _ _ _ hst ?_ ?_ ?_); rfl; rfl)
            have h8 : V4 (w9.setCells ab 0 (#[.int .u64 a4, .int .u64 b4, .int .u64 c4', .int .u64 d4] : Array Value).toList) ab a4 b4 c4' d4 := ⟨hbx⟩
            clear hst hbx
            generalize w9.setCells ab 0 _ = v8 at *
            obtain ⟨e0, e1, e2, e3, f0, f1, f2, f3⟩ := h8.cells
            have HBF := Lib.hid (two_below HB5.out t8 HAB.out HB5.out.size)
            clear h8 t8
            go_wp2
            go_ret
            exact ⟨by rw [HFIN.out]; rfl, HBF.out⟩
end Go.Proofs.YtpanmfdbdgecaaaGreat.C

namespace Go.Proofs.YtpanmfdbdgecaaaGreat.C
open Go.RowKit
set_option linter.unusedVariables false
/-- A flow of IPv4 whose key these bytes are. -/
structure FlC (fl : Array Value) (B : Nat → Nat) : Prop where
  size : fl.size = 36
  one : fl.all (·.oneCell') = true
  c0 : fl[0]? = some (.bool false)
  c1 : fl[1]? = some (.int .u8 17)
  src : ∀ k, k < 4 → fl[2 + k]? = some (.int .u8 (B (2 + k) : Nat))
  dst : ∀ k, k < 4 → fl[18 + k]? = some (.int .u8 (B (6 + k) : Nat))
  sp : fl[34]? = some (.int .u16 1000)
  dp : fl[35]? = some (.int .u16 53)
  b : (B 0 = 4 ∧ B 1 = 17) ∧ B 10 = 3 ∧ B 11 = 232 ∧ B 12 = 0 ∧ B 13 = 53
  lt : ∀ j, B j < 256
theorem flow_flc (s0 s1 s2 s3 d0 d1 d2 d3 : Nat) (hs : s0 < 256 ∧ s1 < 256 ∧ s2 < 256 ∧ s3 < 256) (hd : d0 < 256 ∧ d1 < 256 ∧ d2 < 256 ∧ d3 < 256) : FlC (flowX s0 s1 s2 s3 d0 d1 d2 d3 1000 53) (keyF s0 s1 s2 s3 d0 d1 d2 d3) := by
  refine ⟨rfl, flow_all _ _ _ _ _ _ _ _ _ _, rfl, rfl, fun k hk => ?_, fun k hk => ?_, rfl, rfl, ⟨⟨rfl, rfl⟩, rfl, rfl, rfl, rfl⟩, fun j => ?_⟩
  · rcases (show k = 0 ∨ k = 1 ∨ k = 2 ∨ k = 3 by omega) with rfl | rfl | rfl | rfl <;> rfl
  · rcases (show k = 0 ∨ k = 1 ∨ k = 2 ∨ k = 3 by omega) with rfl | rfl | rfl | rfl <;> rfl
  · unfold keyF keyL
    rcases (show j = 0 ∨ j = 1 ∨ j = 2 ∨ j = 3 ∨ j = 4 ∨ j = 5 ∨ j = 6 ∨ j = 7 ∨ j = 8 ∨ j = 9 ∨ j = 10 ∨ j = 11 ∨ j = 12 ∨ j = 13 ∨ 14 ≤ j by omega) with rfl | rfl | rfl | rfl | rfl | rfl | rfl | rfl | rfl | rfl | rfl | rfl | rfl | rfl | hj
    all_goals first | (simp; done) | (simp; omega) | (rw [List.getD_eq_getElem?_getD, List.getElem?_eq_none (by simpa using hj)]; decide)
theorem own_mono {w : World} {base base' size n : Nat} {e : TypeId} {v : Value} {xs : List Value} (h : w.ownsRow base e size v n xs) (hb : base' ≤ base) : w.ownsRow base' e size v n xs := by
  refine ⟨h.1, ?_⟩
  rcases h.2 with h1 | ⟨g, cap, cur, h1, h2, h3⟩
  · exact .inl h1
  · exact .inr ⟨g, cap, cur, h1, Nat.le_trans hb h2, h3⟩
theorem rangeB_snoc (B : Nat → Nat) (m : Nat) : bv ((List.range (m + 1)).map B) = bv ((List.range m).map B) ++ [.int .u8 (B m : Nat)] := by
  rw [List.range_succ]
  simp [bv]
set_option maxRecDepth 100000 in
set_option maxHeartbeats 4000000 in
theorem r_key (fl : Array Value) (B : Nat → Nat) (w : World) (hf : FlC fl B) :
    Calls Tryz.prog 92 #[.agg fl] w fun e w' => ∃ v, e = .returned v ∧ w'.ownsRow w.heap.size 5 1 v 14 (bv ((List.range 14).map B)) ∧ Below w.heap.size w w' := by
  obtain ⟨i0, hi, hz0, hz1, hz2⟩ := info_parts u8_info
  have Hi := Lib.hid hi
  have Hz0 := Lib.hid hz0
  have Hz1 := Lib.hid hz1
  have Hz2 := Lib.hid hz2
  have HFL := Lib.hid hf
  clear hi hz0 hz1 hz2 hf
  go_enter Tryz.func92, Tryz.ntmps92
  go_upto_region 1 with ((with_reducible refine arm_box 1 0 58 fl ?_ ?_); rfl; intro w1 HB HX HS)
  have HC : Hid (∀ w', Below w1.heap.size w1 w' → ∀ (j : Nat) (v : Value), fl[j]? = some v → w'.cell? ⟨w.heap.size, j, none⟩ = some v) := Lib.hid fun w' q j v hv => cells_of_row (keep_block q HX.out) j _ hv
  have HB1 := Lib.hid HB.out
  clear HX HS HB
  obtain ⟨fb, hfb⟩ : ∃ k, k = w.heap.size := ⟨_, rfl⟩
  rw [← hfb] at HC ⊢
  have HFB := Lib.hid hfb
  clear hfb
  have k0 := HC.out w1 (Below.refl _ _) 0 _ HFL.out.c0
  have k1 := HC.out w1 (Below.refl _ _) 1 _ HFL.out.c1
  have hO : (w1.alloc (.cells #[.int .u8 4, .int .u8 17] 5)).ownsRow w1.heap.size 5 1 (.slice (some ⟨w1.heap.size, 0, none⟩) 2 2) 2 (bv ((List.range 2).map B)) := by
    have := World.ownsRow_lit (base := w1.heap.size) (e := 5) (size := 1) w1 #[.int .u8 4, .int .u8 17] 2 (Nat.le_refl _) (by simp only [maxLen]; omega) rfl
    have e : bv ((List.range 2).map B) = [.int .u8 4, .int .u8 17] := by
      show [Value.int .u8 (B 0 : Nat), .int .u8 (B 1 : Nat)] = _
      rw [HFL.out.b.1.1, HFL.out.b.1.2]
      rfl
    rw [e]
    exact this
  have hB2 : Below w1.heap.size w1 (w1.alloc (.cells #[.int .u8 4, .int .u8 17] 5)) := (Below.refl _ _).alloc (Nat.le_refl _) _
  have HO := Lib.hid hO
  have HB2 := Lib.hid hB2
  clear hO hB2
  go_wp2_with fail
  clear k0 k1
  generalize w1.alloc (.cells #[.int .u8 4, .int .u8 17] 5) = w2 at *
  go_loopw [5, 15] (fun s t wr => ∃ k : Nat, k ≤ 4 ∧ t = .int .i64 (k : Nat) ∧ wr.ownsRow w1.heap.size 5 1 s (2 + k) (bv ((List.range (2 + k)).map B)) ∧ Below w1.heap.size w1 wr) (fun _ t _ => 4 - (intOf t).toNat)
  case atStart => exact ⟨0, by omega, rfl, HO.out, HB2.out⟩
  case round =>
    obtain ⟨k, hk, rfl, ho, hB⟩ := hrel
    have HOR := Lib.hid ho
    have HBR := Lib.hid hB
    clear ho hB HO HB2
    by_cases hk4 : k = 4
    · subst hk4
      have e4 : ((4 : Nat) : Int) = 4 := rfl
      rw [e4]
      go_wp2_with fail
      go_loopw [5, 27] (fun s t wr => ∃ k : Nat, k ≤ 4 ∧ t = .int .i64 (k : Nat) ∧ wr.ownsRow w1.heap.size 5 1 s (6 + k) (bv ((List.range (6 + k)).map B)) ∧ Below w1.heap.size w1 wr) (fun _ t _ => 4 - (intOf t).toNat)
      case atStart => exact ⟨0, by omega, rfl, HOR.out, HBR.out⟩
      case round =>
        clear HOR HBR
        obtain ⟨k, hk, rfl, ho, hB⟩ := hrel
        have HOR := Lib.hid ho
        have HBR := Lib.hid hB
        clear ho hB
        by_cases hk4 : k = 4
        · subst hk4
          have k34 := HC.out wr HBR.out 34 _ HFL.out.sp
          have k35 := HC.out wr HBR.out 35 _ HFL.out.dp
          go_wp2_with (at_builtin; go_must (refine wpList_append_own_at _ rfl (.tmp 38) (.tmp 55) 37 rfl w1.heap.size 5 i0 (.int .u8 0) 1 1 Tryz.underlying37 Hi.out Hz0.out Hz1.out Hz2.out rfl (by omega) u5 10 (bv ((List.range 10).map B)) rfl (by exact World.ownsRow.alloc (w := wr) HOR.out _) ⟨wr.heap.size, 0, none⟩ 4 4 [.int .u8 3, .int .u8 232, .int .u8 0, .int .u8 53] rfl ?hl ?hn ?h1c ?h63 ?hb ?hbase ?next))
          case hl => rfl
          case hn =>
            intro j v hv
            rw [OW.addr_off, Nat.zero_add, cell_of_row _ _ _ _ _ _ (Go.heap_alloc_new wr _)]
            simpa using hv
          case h1c => intro u hu; simp at hu; rcases hu with rfl | rfl | rfl | rfl <;> rfl
          case h63 => simp only [maxLen]; omega
          case hb => omega
          case hbase => simp; have := HBR.out.size; omega
          case next =>
            intro v' w' hown hg _ hat
            have hBf : Below w1.heap.size w1 w' := (HBR.out.alloc HBR.out.size (.cells #[.int .u8 3, .int .u8 232, .int .u8 0, .int .u8 53] 5)).grown hg (by simp; have := HBR.out.size; omega) (fun q hq => (World.ownsRow.lt HOR.out q hq).1)
            have hfin : w'.ownsRow fb 5 1 v' 14 (bv ((List.range 14).map B)) := by
              have e : bv ((List.range 14).map B) = bv ((List.range 10).map B) ++ [.int .u8 3, .int .u8 232, .int .u8 0, .int .u8 53] := by
                obtain ⟨_, h10, h11, h12, h13⟩ := HFL.out.b
                rw [rangeB_snoc B 13, rangeB_snoc B 12, rangeB_snoc B 11, rangeB_snoc B 10, h10, h11, h12, h13]
                simp
              rw [e]
              exact own_mono hown (by rw [HFB.out]; exact HB1.out.size)
            have HFI := Lib.hid hfin
            have HBF := Lib.hid (HB1.out.trans (hBf.mono HB1.out.size))
            clear hown hg hat hBf hfin k34 k35
            go_wp2
            go_ret
            refine ⟨v', rfl, ?_, HBF.out⟩
            rw [← HFB.out]
            exact HFI.out
        · have ck := HC.out wr HBR.out (18 + k) _ (HFL.out.dst k (by omega))
          have hlt : (k : Int) < 4 := by omega
          have hlt16 : (k : Int) < 16 := by omega
          have hkw : IntKind.i64.wrap ((k : Int) + 1) = ((k + 1 : Nat) : Int) := by rw [IntWalk.i64_in _ (by omega)]; omega
          have HLT := Lib.hid (show k + 1 ≤ 4 by omega)
          clear hk4 hk
          go_wp2_with (at_builtin; go_must (refine wpList_append_own_at _ rfl (.tmp 30) (.tmp 35) 37 rfl w1.heap.size 5 i0 (.int .u8 0) 1 1 Tryz.underlying37 Hi.out Hz0.out Hz1.out Hz2.out rfl (by omega) u5 (6 + k) (bv ((List.range (6 + k)).map B)) rfl (by exact World.ownsRow.alloc (w := wr) HOR.out _) ⟨wr.heap.size, 0, none⟩ 1 1 [.int .u8 (B (6 + k) : Nat)] rfl ?hl ?hn ?h1c ?h63 ?hb ?hbase ?next))
          case hl => rfl
          case hn =>
            intro j v hv
            rw [OW.addr_off, Nat.zero_add, cell_of_row _ _ _ _ _ _ (Go.heap_alloc_new wr _)]
            simpa using hv
          case h1c => intro u hu; simp at hu; subst hu; rfl
          case h63 => have := HLT.out; simp only [maxLen]; omega
          case hb => have := HLT.out; omega
          case hbase => simp; have := HBR.out.size; omega
          case next =>
            intro v' w' hown hg _ hat
            have hB : Below w1.heap.size w1 w' := (HBR.out.alloc HBR.out.size (.cells #[.int .u8 (B (6 + k) : Nat)] 5)).grown hg (by simp; have := HBR.out.size; omega) (fun q hq => (World.ownsRow.lt HOR.out q hq).1)
            have HO4 : Hid (w'.ownsRow w1.heap.size 5 1 v' (6 + (k + 1)) (bv ((List.range (6 + (k + 1))).map B))) := Lib.hid (by
              rw [show 6 + (k + 1) = 6 + k + 1 by omega, rangeB_snoc]
              exact hown)
            have HB4 := Lib.hid hB
            clear hown hg hat hB ck
            go_wp2
            go_roundw
            case rel => exact ⟨k + 1, HLT.out, by go_num, HO4.out, HB4.out⟩
            case measure => have := HLT.out; simp [intOf]; omega
    · have ck := HC.out wr HBR.out (2 + k) _ (HFL.out.src k (by omega))
      have hlt : (k : Int) < 4 := by omega
      have hlt16 : (k : Int) < 16 := by omega
      have hkw : IntKind.i64.wrap ((k : Int) + 1) = ((k + 1 : Nat) : Int) := by rw [IntWalk.i64_in _ (by omega)]; omega
      have HLT := Lib.hid (show k + 1 ≤ 4 by omega)
      clear hk4 hk
      go_wp2_with (at_builtin; go_must (refine wpList_append_own_at _ rfl (.tmp 18) (.tmp 23) 37 rfl w1.heap.size 5 i0 (.int .u8 0) 1 1 Tryz.underlying37 Hi.out Hz0.out Hz1.out Hz2.out rfl (by omega) u5 (2 + k) (bv ((List.range (2 + k)).map B)) rfl (by exact World.ownsRow.alloc (w := wr) HOR.out _) ⟨wr.heap.size, 0, none⟩ 1 1 [.int .u8 (B (2 + k) : Nat)] rfl ?hl ?hn ?h1c ?h63 ?hb ?hbase ?next))
      case hl => rfl
      case hn =>
        intro j v hv
        rw [OW.addr_off, Nat.zero_add, cell_of_row _ _ _ _ _ _ (Go.heap_alloc_new wr _)]
        simpa using hv
      case h1c => intro u hu; simp at hu; subst hu; rfl
      case h63 => have := HLT.out; simp only [maxLen]; omega
      case hb => have := HLT.out; omega
      case hbase => simp; have := HBR.out.size; omega
      case next =>
        intro v' w' hown hg _ hat
        have hB : Below w1.heap.size w1 w' := (HBR.out.alloc HBR.out.size (.cells #[.int .u8 (B (2 + k) : Nat)] 5)).grown hg (by simp; have := HBR.out.size; omega) (fun q hq => (World.ownsRow.lt HOR.out q hq).1)
        have HO4 : Hid (w'.ownsRow w1.heap.size 5 1 v' (2 + (k + 1)) (bv ((List.range (2 + (k + 1))).map B))) := Lib.hid (by
          rw [show 2 + (k + 1) = 2 + k + 1 by omega, rangeB_snoc]
          exact hown)
        have HB4 := Lib.hid hB
        clear hown hg hat hB ck
        go_wp2
        go_roundw
        case rel => exact ⟨k + 1, HLT.out, by go_num, HO4.out, HB4.out⟩
        case measure => have := HLT.out; simp [intOf]; omega
end Go.Proofs.YtpanmfdbdgecaaaGreat.C

namespace Go.Proofs.YtpanmfdbdgecaaaGreat.C
open Go.RowKit
set_option linter.unusedVariables false
theorem cat_row (B : Nat → Nat) (lv : Nat) : ∀ j, j < 15 → (bv ((List.range 14).map B) ++ [.int .u8 (lv : Nat)])[j]? = some (.int .u8 (catF 14 B (fun _ => lv) j : Nat)) := fun j hj => by
  unfold catF bv
  by_cases h : j < 14
  · rw [if_pos h, List.getElem?_append_left (by simpa using h), List.getElem?_map, List.getElem?_map, List.getElem?_range h]
    rfl
  · obtain rfl : j = 14 := by omega
    rw [if_neg h]
    rfl
/-- A row of its own is a frame. -/
theorem own_fr {w : World} {base : Nat} {v : Value} {B : Nat → Nat} {lv : Nat} (hB : ∀ j, B j < 256) (hl : lv < 256) (h : w.ownsRow base 5 1 v 15 (bv ((List.range 14).map B) ++ [.int .u8 (lv : Nat)])) : ∃ g c, v = .slice (some ⟨g, 0, none⟩) 15 c ∧ FrAt w g 0 15 c (catF 14 B (fun _ => lv)) := by
  rcases h.2 with ⟨_, h0⟩ | ⟨g, cap, cur, rfl, h1, h2, h3, h4, h5, h6⟩
  · cases h0
  · refine ⟨g, cap, rfl, fun j hj => ?_, catF_byte hB (fun _ => hl), ⟨h3, h4⟩, (Array.getElem?_eq_some_iff.1 h2).1⟩
    have := h.cells (g := g) rfl j _ (cat_row B lv j hj)
    rw [OW.addr_off] at this
    exact this
set_option maxRecDepth 100000 in
set_option maxHeartbeats 4000000 in
theorem r_fall (kv fl : Array Value) (K B : Nat → Nat) (lv n : Nat) (w : World) (hk : Key16 kv K) (hKb : ∀ j, K j < 256) (hf : FlC fl B) (hlv : lv < 256) (h1 : 1 ≤ n) (h2 : n ≤ 64) :
    Calls Tryz.prog 49 #[.agg kv, .agg fl, .int .i64 (lv : Nat), .int .i64 (n : Nat)] w fun e w' => e = .returned (.int .i64 (fallV K B lv n : Nat)) ∧ Below w.heap.size w w' := by
  obtain ⟨i0, hi, hz0, hz1, hz2⟩ := info_parts u8_info
  have Hi := Lib.hid hi
  have Hz0 := Lib.hid hz0
  have Hz1 := Lib.hid hz1
  have Hz2 := Lib.hid hz2
  have HK := Lib.hid hk
  have HFL := Lib.hid hf
  have CK := Lib.hid (fun w' => r_key fl B w' hf)
  have HFS := Lib.hid (show (Tryz.prog.info? 58).map (·.size) = some fl.size by rw [hf.size]; exact flow_info)
  have HKS := Lib.hid (show (Tryz.prog.info? 22).map (·.size) = some kv.size by rw [hk.size]; exact key16_info)
  obtain ⟨F, hF⟩ : ∃ F, catF 14 B (fun _ => lv) = F := ⟨_, rfl⟩
  obtain ⟨r, hr⟩ : ∃ r, fallV K B lv n = r := ⟨_, rfl⟩
  have hrn := fallV_lt K B lv n h1
  rw [hr] at hrn ⊢
  have hmod : (sipSum K F 15).tmod (n : Int) = (r : Int) := by
    rw [← hr, fallV, hF, Int.tmod_eq_emod_of_nonneg (sipSum_range _ _ _).1, Int.toNat_of_nonneg (Int.emod_nonneg _ (by omega))]
  have hcn : IntKind.u64.wrap (n : Int) = (n : Int) := by rw [IntKind.wrap_u64]; omega
  have hn0 : ¬ ((n : Int) = 0) := by omega
  have hn1 : ¬ ((n : Int) < 1) := by omega
  have hnz : n ≠ 0 := by omega
  have hcr : IntKind.i64.wrap (r : Int) = (r : Int) := IntWalk.i64_in _ (by omega)
  have hl8 : IntKind.u8.wrap (lv : Int) = (lv : Int) := by rw [IntKind.wrap_u8]; omega
  have CS := Lib.hid (fun (g o c : Nat) (w2 : World) (h : FrAt w2 g o 15 c F) => r_sum kv K g o c F w2 hk hKb h)
  have HF := Lib.hid hF
  have HMOD := Lib.hid hmod
  have HLV := Lib.hid hlv
  clear hF hr hmod hk hf hKb hi hz0 hz1 hz2
  generalize sipSum K F 15 = sm at *
  have hmod := HMOD.out
  go_enter Tryz.func49, Tryz.ntmps49
  go_upto_region 1 with (first
    | ((with_reducible refine arm_box 4 0 22 kv ?_ ?_); rfl; intro w1 HB1 HX1 HS1)
    | ((with_reducible refine arm_box 5 1 58 fl ?_ ?_); rfl; intro v2 HB2 HX2 HS2))
  have HLD : Hid (∀ w', Below v2.heap.size v2 w' → (Instr.loadAt 22 (.pointer (some ⟨w.heap.size, 0, none⟩))).run Tryz.prog w' = .ok (.agg kv) w' ∧ (Instr.loadAt 58 (.pointer (some ⟨w1.heap.size, 0, none⟩))).run Tryz.prog w' = .ok (.agg fl) w') := Lib.hid fun w' h =>
    ⟨box_load (t := 22) (keep_block h (keep_block HB2.out HX1.out)) _ Tryz.underlying22 rfl HKS.out, box_load (t := 58) (keep_block h HX2.out) _ Tryz.underlying58 rfl HFS.out⟩
  have B2 := Lib.hid (HB1.out.trans (HB2.out.mono HB1.out.size))
  clear HX1 HX2
  go_wp2_with fail
  refine wp_region_held_drew (S := Below v2.heap.size v2) (by kernel_rfl) (Below.refl _ _).drew (fun hHeld => ?_)
  refine wpAnyH_take (i := 0) (oi := ⟨some 11, _, _, _, _, _⟩) (v := .agg kv) rfl (by kernel_rfl) (by kernel_rfl) (by kernel_rfl) (fun _ _ _ h => h) (Or.inl ⟨by rfl, fun w hSw => exec_load rfl (HLD.out w hSw).1⟩) hHeld ?_
  try simp only [Act.put, List.setIfInBounds_toArray, List.set_cons_zero, List.set_cons_succ]
  refine wpAnyH_take (i := 1) (oi := ⟨some 12, _, _, _, _, _⟩) (v := .agg fl) rfl (by kernel_rfl) (by kernel_rfl) (by kernel_rfl) (fun _ _ _ h => h) (Or.inl ⟨by rfl, fun w hSw => exec_load rfl (HLD.out w hSw).2⟩) hHeld ?_
  try simp only [Act.put, List.setIfInBounds_toArray, List.set_cons_zero, List.set_cons_succ]
  refine wpAnyH_take (i := 3) (oi := ⟨some 14, _, _, _, _, _⟩) (v := ?_) rfl (by kernel_rfl) (by kernel_rfl) (by kernel_rfl) (fun _ _ _ h => h) (Or.inl ⟨by rfl, ?_⟩) hHeld ?_
  rotate_left
  · intro w hSw
    go_simp
    try with_reducible rfl
  try simp only [Act.put, List.setIfInBounds_toArray, List.set_cons_zero, List.set_cons_succ]
  refine wpAnyH_take (i := 4) (oi := ⟨some 15, _, _, _, _, _⟩) (v := ?_) rfl (by kernel_rfl) (by kernel_rfl) (by kernel_rfl) (fun _ _ _ h => h) (Or.inl ⟨by rfl, ?_⟩) hHeld ?_
  rotate_left
  · intro w hSw
    go_simp
    try with_reducible rfl
  try simp only [Act.put, List.setIfInBounds_toArray, List.set_cons_zero, List.set_cons_succ]
  refine wpAnyH_take (i := 8) (oi := ⟨some 19, _, _, _, _, _⟩) (v := ?_) rfl (by kernel_rfl) (by kernel_rfl) (by kernel_rfl) (fun _ _ _ h => h) (Or.inl ⟨by rfl, ?_⟩) hHeld ?_
  rotate_left
  · intro w hSw
    go_simp
    try with_reducible rfl
  try simp only [Act.put, List.setIfInBounds_toArray, List.set_cons_zero, List.set_cons_succ]
  refine wpAnyH_take (i := 9) (oi := ⟨some 20, _, _, _, _, _⟩) (v := ?_) rfl (by kernel_rfl) (by kernel_rfl) (by kernel_rfl) (fun _ _ _ h => h) (Or.inl ⟨by rfl, ?_⟩) hHeld ?_
  rotate_left
  · intro w hSw
    go_simp
    try with_reducible rfl
  try simp only [Act.put, List.setIfInBounds_toArray, List.set_cons_zero, List.set_cons_succ]
  refine wpAnyH_ready (rs := [2, 5]) (by kernel_rfl) (by simp) ?_
  refine AllReadyH.cons rfl (fun K hK => ?ordA) (AllReadyH.cons rfl (fun K hK => ?ordB) AllReadyH.nil)
  case' ordA =>
    go_simp
    go_wp2_with (go_at_call 92; go_must (refine (CK.out _).mono ?_; rintro e w2 ⟨va, rfl, ho, hB⟩))
    refine hK.out _ _ (hHeld.trans (hB.mono hHeld.size)) (fun hHeld => ?_)
    clear hK K
    refine wpAnyH_ready (rs := [5]) (by kernel_rfl) (by simp) ?_
    refine AllReadyH.cons rfl (fun K hK => ?_) AllReadyH.nil
    go_simp
    refine hK.out _ _ (hHeld.alloc hHeld.size _) (fun hHeld => ?_)
    clear hK K
    have hsz2 := hHeld.size
    have hoA : (w2.alloc (.cells #[.int .u8 (lv : Nat)] 5)).ownsRow v2.heap.size 5 1 va 14 (bv ((List.range 14).map B)) := World.ownsRow.alloc (own_mono ho (by first | exact Nat.le_refl _ | simp)) _
    have hnew : (w2.alloc (.cells #[.int .u8 (lv : Nat)] 5)).heap[w2.heap.size]? = some (.cells #[.int .u8 (lv : Nat)] 5 (0, 0)) := Go.heap_alloc_new w2 _
    clear ho hB
    generalize w2.alloc (.cells #[.int .u8 (lv : Nat)] 5) = W at *
    generalize w2.heap.size = lb at *
  case' ordB =>
    go_simp
    refine hK.out _ _ (hHeld.alloc hHeld.size _) (fun hHeld => ?_)
    clear hK K
    have hnew0 : ((v2.alloc (.cells #[.int .u8 (lv : Nat)] 5)).drew).heap[v2.heap.size]? = some (.cells #[.int .u8 (lv : Nat)] 5 (0, 0)) := Go.heap_alloc_new v2 _
    generalize (v2.alloc (.cells #[.int .u8 (lv : Nat)] 5)).drew = wb at *
    refine wpAnyH_ready (rs := [2]) (by kernel_rfl) (by simp) ?_
    refine AllReadyH.cons rfl (fun K hK => ?_) AllReadyH.nil
    go_simp
    go_wp2_with (go_at_call 92; go_must (refine (CK.out _).mono ?_; rintro e w2 ⟨va, rfl, ho, hB⟩))
    refine hK.out _ _ (hHeld.trans (hB.mono hHeld.size)) (fun hHeld => ?_)
    clear hK K
    have hnew := keep_block hB hnew0
    have hoA := own_mono ho (show v2.heap.size ≤ wb.heap.size by have := (Array.getElem?_eq_some_iff.1 hnew0).1; omega)
    clear ho hB hnew0
    generalize w2 = W at *
  all_goals
    refine wpAnyH_ready (rs := [6]) (by kernel_rfl) (by simp) ?_
    refine AllReadyH.cons (o := ⟨some 17, _, _, _, _, _⟩) rfl (fun K hK => ?_) AllReadyH.nil
    rw [if_pos (by rfl)]
    first | refine OW.wp_append _ (.tmp 13) (.tmp 16) 37 rfl v2.heap.size 5 i0 (.int .u8 0) 1 1 Tryz.underlying37 Hi.out Hz0.out Hz1.out Hz2.out rfl (by omega) va 14 (bv ((List.range 14).map B)) (by rfl) hoA ⟨lb, 0, none⟩ 1 1 [.int .u8 (lv : Nat)] (by simp [Act.eval]) rfl ?_ ?_ ?_ ?_ ?_ ?_ | refine OW.wp_append _ (.tmp 13) (.tmp 16) 37 rfl v2.heap.size 5 i0 (.int .u8 0) 1 1 Tryz.underlying37 Hi.out Hz0.out Hz1.out Hz2.out rfl (by omega) va 14 (bv ((List.range 14).map B)) (by rfl) hoA ⟨v2.heap.size, 0, none⟩ 1 1 [.int .u8 (lv : Nat)] (by simp [Act.eval]) rfl ?_ ?_ ?_ ?_ ?_ ?_
    · intro j v hv
      rw [OW.addr_off, Nat.zero_add, cell_of_row _ _ _ _ _ _ hnew]
      simpa using hv
    · intro u hu; simp at hu; subst hu; rfl
    · simp only [maxLen]; omega
    · omega
    · exact hHeld.size
    · intro v6 W2 hE6 hg6 hat6
      have hB6 : Below v2.heap.size v2 W2 := hHeld.grown hg6 hHeld.size (fun q hq => (World.ownsRow.lt hoA q hq).1)
      obtain ⟨g6, c6, rfl, hfr⟩ := own_fr HFL.out.lt HLV.out hE6
      rw [HF.out] at hfr
      have HFR := Lib.hid hfr
      clear hg6 hat6 hE6 hHeld hoA hnew hfr
      refine hK.out _ _ hB6 (fun hHeld => ?_)
      clear hK K
      try simp only [Act.put, List.setIfInBounds_toArray, List.set_cons_zero, List.set_cons_succ]
      refine wpAnyH_ready (rs := [7]) (by kernel_rfl) (by simp) ?_
      refine AllReadyH.cons rfl (fun K hK => ?_) AllReadyH.nil
      go_simp
      go_wp2_with (go_at_call 91; go_must (refine (CS.out g6 0 c6 _ HFR.out).mono ?_; rintro e w7 ⟨rfl, hB7⟩))
      refine hK.out _ _ (hHeld.trans (hB7.mono hHeld.size)) (fun hHeld => ?_)
      clear hK K
      refine wpAnyH_take (i := 10) (oi := ⟨some 21, _, _, _, _, _⟩) (v := ?_) rfl (by kernel_rfl) (by kernel_rfl) (by kernel_rfl) (fun _ _ _ h => h) (Or.inl ⟨by rfl, ?_⟩) hHeld ?_
      rotate_left
      · intro w hSw
        go_simp
        try with_reducible rfl
      try simp only [Act.put, List.setIfInBounds_toArray, List.set_cons_zero, List.set_cons_succ]
      refine wpAnyH_take (i := 11) (oi := ⟨some 22, _, _, _, _, _⟩) (v := ?_) rfl (by kernel_rfl) (by kernel_rfl) (by kernel_rfl) (fun _ _ _ h => h) (Or.inl ⟨by rfl, ?_⟩) hHeld ?_
      rotate_left
      · intro w hSw
        go_simp
        try with_reducible rfl
      try simp only [Act.put, List.setIfInBounds_toArray, List.set_cons_zero, List.set_cons_succ]
      refine wpAnyH_take (i := 12) (oi := ⟨some 8, _, _, _, _, _⟩) (v := ?_) rfl (by kernel_rfl) (by kernel_rfl) (by kernel_rfl) (fun _ _ _ h => h) (Or.inl ⟨by rfl, ?_⟩) hHeld ?_
      rotate_left
      · intro w hSw
        go_simp
        try with_reducible rfl
      try simp only [Act.put, List.setIfInBounds_toArray, List.set_cons_zero, List.set_cons_succ]
      refine wpAnyH_done (by kernel_rfl) ?_ _
      have HB7 := Lib.hid (B2.out.trans (hHeld.mono B2.out.size))
      clear hB7 hHeld
      go_wp2
      go_ret
      exact ⟨rfl, HB7.out⟩
set_option maxRecDepth 100000 in
theorem r_bucket (kv fl : Array Value) (K B : Nat → Nat) (n : Nat) (w : World) (hk : Key16 kv K) (hKb : ∀ j, K j < 256) (hf : FlC fl B) (h1 : 1 ≤ n) (h2 : n ≤ 64) :
    Calls Tryz.prog 26 #[.agg kv, .agg fl, .int .i64 (n : Nat)] w fun e w' => e = .returned (.int .i64 (fallV K B 0 n : Nat)) ∧ Below w.heap.size w w' := by
  have CF : Hid (∀ w', Calls Tryz.prog 49 #[.agg kv, .agg fl, .int .i64 0, .int .i64 (n : Nat)] w' fun e w'' => e = .returned (.int .i64 (fallV K B 0 n : Nat)) ∧ Below w'.heap.size w' w'') := Lib.hid fun w' => r_fall kv fl K B 0 n w' hk hKb hf (by decide) h1 h2
  have HFS := Lib.hid (show (Tryz.prog.info? 58).map (·.size) = some fl.size by rw [hf.size]; exact flow_info)
  have HKS := Lib.hid (show (Tryz.prog.info? 22).map (·.size) = some kv.size by rw [hk.size]; exact key16_info)
  clear hk hf
  go_enter Tryz.func26, Tryz.ntmps26
  go_upto_region 1 with (first
    | ((with_reducible refine arm_box 3 0 22 kv ?_ ?_); rfl; intro w1 HB1 HX1 HS1)
    | ((with_reducible refine arm_box 4 1 58 fl ?_ ?_); rfl; intro v2 HB2 HX2 HS2))
  have hl1 := box_load (t := 22) (keep_block HB2.out HX1.out) _ Tryz.underlying22 rfl HKS.out
  have hl2 := box_load (t := 58) HX2.out _ Tryz.underlying58 rfl HFS.out
  have B2 := Lib.hid (HB1.out.trans (HB2.out.mono HB1.out.size))
  clear HX1 HX2 HB1 HB2 HS1 HS2
  go_wp2_with (first | ((with_reducible refine arm_load 7 3 22 _ _ hl1 ?_ ?_); rfl) | ((with_reducible refine arm_load 8 4 58 _ _ hl2 ?_ ?_); rfl))
  refine (CF.out _).mono ?_
  rintro e w3 ⟨rfl, hB⟩
  have HB := Lib.hid (B2.out.trans (hB.mono B2.out.size))
  clear hB
  go_wp2
  go_ret
  exact ⟨rfl, HB.out⟩
end Go.Proofs.YtpanmfdbdgecaaaGreat.C

namespace Go.Proofs.YtpanmfdbdgecaaaGreat.C
open Go.RowKit
set_option linter.unusedVariables false
set_option maxRecDepth 100000 in
set_option maxHeartbeats 2000000 in
theorem r_bins (kv fl : Array Value) (K B : Nat → Nat) (n : Nat) (w : World) (hk : Key16 kv K) (hKb : ∀ j, K j < 256) (hf : FlC fl B) (h1 : 1 ≤ n) (h2 : n ≤ 64) :
    Calls Tryz.prog 27 #[.agg kv, .agg fl, .int .i64 1, .int .i64 (n : Nat)] w fun e w' => ∃ g c, e = .returned (.slice (some ⟨g, 0, none⟩) 1 c) ∧ w'.cell? ⟨g, 0, none⟩ = some (.int .i64 (fallV K B 1 n : Nat)) ∧ Below w.heap.size w w' := by
  obtain ⟨i0, hi, hz0, hz1, hz2⟩ := info_parts int_info
  have Hi := Lib.hid hi
  have Hz0 := Lib.hid hz0
  have Hz1 := Lib.hid hz1
  have Hz2 := Lib.hid hz2
  have CF : Hid (∀ w', Calls Tryz.prog 49 #[.agg kv, .agg fl, .int .i64 1, .int .i64 (n : Nat)] w' fun e w'' => e = .returned (.int .i64 (fallV K B 1 n : Nat)) ∧ Below w'.heap.size w' w'') := Lib.hid fun w' => r_fall kv fl K B 1 n w' hk hKb hf (by decide) h1 h2
  have HFS := Lib.hid (show (Tryz.prog.info? 58).map (·.size) = some fl.size by rw [hf.size]; exact flow_info)
  have HKS := Lib.hid (show (Tryz.prog.info? 22).map (·.size) = some kv.size by rw [hk.size]; exact key16_info)
  obtain ⟨r, hr⟩ : ∃ r, fallV K B 1 n = r := ⟨_, rfl⟩
  rw [hr] at CF ⊢
  clear hk hf hi hz0 hz1 hz2 hr
  go_enter Tryz.func27, Tryz.ntmps27
  go_upto_region 1 with (first
    | ((with_reducible refine arm_box 4 0 22 kv ?_ ?_); rfl; intro w1 HB1 HX1 HS1)
    | ((with_reducible refine arm_box 5 1 58 fl ?_ ?_); rfl; intro v2 HB2 HX2 HS2))
  have HLD : Hid (∀ w', Below v2.heap.size v2 w' → (Instr.loadAt 22 (.pointer (some ⟨w.heap.size, 0, none⟩))).run Tryz.prog w' = .ok (.agg kv) w' ∧ (Instr.loadAt 58 (.pointer (some ⟨w1.heap.size, 0, none⟩))).run Tryz.prog w' = .ok (.agg fl) w') := Lib.hid fun w' h =>
    ⟨box_load (t := 22) (keep_block h (keep_block HB2.out HX1.out)) _ Tryz.underlying22 rfl HKS.out, box_load (t := 58) (keep_block h HX2.out) _ Tryz.underlying58 rfl HFS.out⟩
  have B2 := Lib.hid (HB1.out.trans (HB2.out.mono HB1.out.size))
  clear HX1 HX2 HB1 HB2 HS1 HS2
  go_wp2_with fail
  go_loopw [9, 11] (fun s t wr => ∃ k : Nat, k ≤ 4 ∧ t = .int .i64 (k : Nat) ∧ (k = 0 → s = .slice none 0 0) ∧ (1 ≤ k → wr.ownsRow v2.heap.size 3 1 s 1 [.int .i64 (r : Nat)]) ∧ Below v2.heap.size v2 wr) (fun _ t _ => 4 - (intOf t).toNat)
  case atStart => exact ⟨0, by omega, rfl, fun _ => rfl, fun h => absurd h (by omega), Below.refl _ _⟩
  case round =>
    obtain ⟨k, hk, rfl, hs0, hs1, hB⟩ := hrel
    have HBR := Lib.hid hB
    clear hB
    by_cases hk4 : k = 4
    · subst hk4
      have HO := Lib.hid (hs1 (by omega))
      clear hs0 hs1
      go_wp2
      go_ret
      rcases HO.out.2 with ⟨_, h0⟩ | ⟨g, cap, cur, hv, h3, h4, h5, h6, h7, h8⟩
      · cases h0
      · have hc := HO.out.cells (g := g) (by rw [hv]; rfl) 0 _ rfl
        rw [OW.addr_off] at hc
        exact ⟨g, cap, by rw [hv]; rfl, hc, B2.out.trans (HBR.out.mono B2.out.size)⟩
    · have hlt : (k : Int) < 4 := by omega
      have hkw : IntKind.i64.wrap ((k : Int) + 1) = ((k + 1 : Nat) : Int) := by rw [IntWalk.i64_in _ (by omega)]; omega
      by_cases hk0 : k = 0
      · subst hk0
        obtain rfl := hs0 rfl
        clear hs0 hs1
        obtain ⟨hl1, hl2⟩ := HLD.out wr HBR.out
        have hown0 : wr.ownsRow v2.heap.size 3 1 (.slice none 0 0) 0 [] := World.ownsRow_nil _ _ _ _
        have HO0 := Lib.hid hown0
        clear hown0
        go_wp2_with (first | ((with_reducible refine arm_load 18 4 22 _ _ hl1 ?_ ?_); rfl) | ((with_reducible refine arm_load 19 5 58 _ _ hl2 ?_ ?_); rfl))
        refine (CF.out _).mono ?_
        rintro e w5 ⟨rfl, hB5⟩
        have HB5 := Lib.hid (HBR.out.trans (hB5.mono HBR.out.size))
        have HO5 := Lib.hid (OW.below HO0.out hB5)
        clear hB5 hl1 hl2 HBR HO0
        go_wp2_with (at_builtin; go_must (refine wpList_append_own_at _ rfl (.tmp 17) (.tmp 24) 117 rfl v2.heap.size 3 i0 (.int .i64 0) 1 8 Tryz.underlying117 Hi.out Hz0.out Hz1.out Hz2.out rfl (by omega) (.slice none 0 0) 0 [] rfl (by exact World.ownsRow.alloc (w := w5) HO5.out _) ⟨w5.heap.size, 0, none⟩ 1 1 [.int .i64 (r : Nat)] rfl ?hl ?hn ?h1c ?h63 ?hb ?hbase ?next))
        case hl => rfl
        case hn =>
          intro j v hv
          rw [OW.addr_off, Nat.zero_add, cell_of_row _ _ _ _ _ _ (Go.heap_alloc_new w5 _)]
          simpa using hv
        case h1c => intro u hu; simp at hu; subst hu; rfl
        case h63 => simp only [maxLen]; omega
        case hb => omega
        case hbase => simp; have := HB5.out.size; omega
        case next =>
          intro v' w' hown hg _ hat
          have hB : Below v2.heap.size v2 w' := (HB5.out.alloc HB5.out.size (.cells #[.int .i64 (r : Nat)] 3)).grown hg (by simp; have := HB5.out.size; omega) (fun q hq => (World.ownsRow.lt HO5.out q hq).1)
          have HO6 : Hid (w'.ownsRow v2.heap.size 3 1 v' 1 [.int .i64 (r : Nat)]) := Lib.hid hown
          have HB6 := Lib.hid hB
          clear hown hg hat hB
          go_wp2
          go_roundw
          case rel => exact ⟨0 + 1, by omega, by first | rfl | go_num, fun h => absurd h (by omega), fun _ => HO6.out, HB6.out⟩
          case measure => simp [intOf]
      · have HO := Lib.hid (hs1 (by omega))
        have hno : ¬ ((k : Int) < 1) := by omega
        have HK0 := Lib.hid (show k + 1 ≤ 4 from by omega)
        clear hs0 hs1 hk0 hk4
        go_wp2
        go_roundw
        case rel => exact ⟨k + 1, HK0.out, by go_num, fun h => absurd h (by omega), fun _ => HO.out, HBR.out⟩
        case measure => have := HK0.out; simp [intOf]; omega
def flZ : Array Value := ([Value.bool false, .int .u8 0] ++ List.replicate 32 (Value.int .u8 0) ++ [Value.int .u16 0, Value.int .u16 0]).toArray
def flB : Array Value := ([Value.bool false, .int .u8 17] ++ List.replicate 32 (Value.int .u8 0) ++ [Value.int .u16 1000, Value.int .u16 53]).toArray
theorem flq_zero : (Tryz.prog.info? 58).map (fun i => (i.zero, i.size)) = some (some (.agg flZ), 36) := by kernel_rfl
theorem fl_build (w : World) : (Instr.build 58 #[(1, .int .u8 17), (4, .int .u16 1000), (5, .int .u16 53)]).run Tryz.prog w = .ok (.agg flB) w := run_build w 58 _ _ (by kernel_rfl)
theorem fl_set (n : Nat) : ((((flB.setIfInBounds 2 (.int .u8 10)).setIfInBounds 3 (.int .u8 1)).setIfInBounds 4 (.int .u8 (n : Nat))).setIfInBounds 5 (.int .u8 7)).setIfInBounds 18 (.int .u8 9) = flowX 10 1 n 7 9 0 0 0 1000 53 := by kernel_rfl
set_option maxRecDepth 100000 in
theorem flow_is (n : Nat) (w : World) : Calls Tryz.prog 18 #[.int .u8 (n : Nat)] w fun e w' => e = .returned (.agg (flowX 10 1 n 7 9 0 0 0 1000 53)) ∧ Below w.heap.size w w' := by
  have hz := flq_zero
  have hb := fl_build
  have hzs : flZ.size = 36 := rfl
  have hbs : flB.size = 36 := rfl
  have hba : flB.all (·.oneCell') = true := by kernel_rfl
  have hset := fl_set n
  have hxs : (flowX 10 1 n 7 9 0 0 0 1000 53).size = 36 := rfl
  have hxa : (flowX 10 1 n 7 9 0 0 0 1000 53).all (·.oneCell') = true := flow_all _ _ _ _ _ _ _ _ _ _
  have g2 : flB[2]? = some (.int .u8 0) := rfl
  have g3 : flB[3]? = some (.int .u8 0) := rfl
  have g4 : flB[4]? = some (.int .u8 0) := rfl
  have g5 : flB[5]? = some (.int .u8 0) := rfl
  have g18 : flB[18]? = some (.int .u8 0) := rfl
  generalize flowX 10 1 n 7 9 0 0 0 1000 53 = X at *
  generalize flB = FB at *
  generalize flZ = Z at *
  have HZ := Lib.hid hz
  have HZS := Lib.hid hzs
  have HBS := Lib.hid hbs
  have HBA := Lib.hid hba
  have HSET := Lib.hid hset
  have HXS := Lib.hid hxs
  have HXA := Lib.hid hxa
  have HG := Lib.hid (And.intro g2 (And.intro g3 (And.intro g4 (And.intro g5 g18))))
  have hfi := flow_info
  clear hz hzs hbs hba hset hxs hxa g2 g3 g4 g5 g18
  go_enter Tryz.func18, Tryz.ntmps18
  go_upto_region 2 with (first
    | ((with_reducible refine arm_alloc 2 58 Z 36 HZ.out ?_); intro w1 HB1 HX1 HS1)
    | ((with_reducible refine arm_build 4 58 _ #[(1, .int .u8 17), (4, .int .u16 1000), (5, .int .u16 53)] _ (hb _) ?_ ?_); (first | rfl | simp [Act.eval]))
    | ((with_reducible refine arm_alloc 3 58 Z 36 HZ.out ?_); intro w2 HB2 HX2 HS2; have hst := box_store (t := 58) (x := FB) HX2.out (by rw [HBS.out]; exact flow_info) HBA.out (HZS.out.trans HBS.out.symm))
    | ((with_reducible refine arm_store 3 4 58 _ _ _ hst ?_ ?_ ?_); rfl; rfl))
  have hX3 := box_whole (cs := FB) HX2.out (HBS.out.trans HZS.out.symm)
  have hB3 := below_setCells (b := w1.heap.size) (Nat.le_refl _) FB.toList 0 HB2.out
  have hR3 := keep_block hB3 HX1.out
  have hB3' := HB1.out.trans (hB3.mono HB1.out.size)
  have hlt : w.heap.size < w1.heap.size := (Array.getElem?_eq_some_iff.1 HX1.out).1
  clear hst HB1 HX1 HS1 HB2 HX2 HS2 hB3
  generalize w2.setCells w1.heap.size 0 FB.toList = w3 at *
  obtain ⟨cb, hcb⟩ : ∃ k, k = w1.heap.size := ⟨_, rfl⟩
  obtain ⟨rb, hrb⟩ : ∃ k, k = w.heap.size := ⟨_, rfl⟩
  have HCB := Lib.hid (show w.heap.size ≤ cb by omega)
  have HNE := Lib.hid (show rb ≠ cb by omega)
  have HRB := Lib.hid hrb
  rw [← hcb] at hX3 ⊢
  rw [← hrb] at hR3 ⊢
  clear hlt hcb hrb
  obtain ⟨g2, g3, g4, g5, g18⟩ := HG.out
  have c2 := cells_of_row hX3 2 _ g2
  have c3 := cells_of_row hX3 3 _ g3
  have c4 := cells_of_row hX3 4 _ g4
  have c5 := cells_of_row hX3 5 _ g5
  have c18 := cells_of_row hX3 18 _ g18
  have f2 := frozen_of_row _ _ 2 _ _ hX3
  have f3 := frozen_of_row _ _ 3 _ _ hX3
  have f4 := frozen_of_row _ _ 4 _ _ hX3
  have f5 := frozen_of_row _ _ 5 _ _ hX3
  have f18 := frozen_of_row _ _ 18 _ _ hX3
  have hX4 := heap_setCell_same _ _ 18 _ _ (.int .u8 9) (heap_setCell_same _ _ 5 _ _ (.int .u8 7) (heap_setCell_same _ _ 4 _ _ (.int .u8 (n : Nat)) (heap_setCell_same _ _ 3 _ _ (.int .u8 1) (heap_setCell_same _ _ 2 _ _ (.int .u8 10) hX3))))
  have hR4 := (heap_setCell_other _ ⟨cb, 18, none⟩ _ (.int .u8 9) HNE.out).trans ((heap_setCell_other _ ⟨cb, 5, none⟩ _ (.int .u8 7) HNE.out).trans ((heap_setCell_other _ ⟨cb, 4, none⟩ _ (.int .u8 (n : Nat)) HNE.out).trans ((heap_setCell_other _ ⟨cb, 3, none⟩ _ (.int .u8 1) HNE.out).trans ((heap_setCell_other w3 ⟨cb, 2, none⟩ _ (.int .u8 10) HNE.out).trans hR3))))
  have hB4 := ((((hB3'.setCell (p := ⟨cb, 2, none⟩) HCB.out (.int .u8 10)).setCell (p := ⟨cb, 3, none⟩) HCB.out (.int .u8 1)).setCell (p := ⟨cb, 4, none⟩) HCB.out (.int .u8 (n : Nat))).setCell (p := ⟨cb, 5, none⟩) HCB.out (.int .u8 7)).setCell (p := ⟨cb, 18, none⟩) HCB.out (.int .u8 9)
  rw [HSET.out] at hX4
  have HX4 := Lib.hid hX4
  have HR4 := Lib.hid hR4
  have HB4 := Lib.hid hB4
  clear hX4 hR4 hB4 hX3 hR3 hB3' g2 g3 g4 g5 g18
  go_upto_region 3 with (fail)
  clear c2 c3 c4 c5 c18 f2 f3 f4 f5 f18
  generalize ((((w3.setCell ⟨cb, 2, none⟩ (.int .u8 10)).setCell ⟨cb, 3, none⟩ (.int .u8 1)).setCell ⟨cb, 4, none⟩ (.int .u8 (n : Nat))).setCell ⟨cb, 5, none⟩ (.int .u8 7)).setCell ⟨cb, 18, none⟩ (.int .u8 9) = w4 at *
  have hld := box_load (t := 58) HX4.out _ Tryz.underlying58 rfl (by rw [HXS.out]; exact flow_info)
  have hst := box_store (t := 58) (x := X) HR4.out (by rw [HXS.out]; exact flow_info) HXA.out (HZS.out.trans HXS.out.symm)
  have hbx := Lib.hid (box_whole (cs := X) HR4.out (HXS.out.trans HZS.out.symm))
  have hfb := Lib.hid (below_setCells (b := rb) (Nat.le_of_eq HRB.out.symm) X.toList 0 HB4.out)
  go_wp2_with (first | ((with_reducible refine arm_load 16 3 58 _ _ hld ?_ ?_); rfl) | ((with_reducible refine arm_store 2 16 58 _ _ _ hst ?_ ?_ ?_); rfl; rfl))
  refine bodyPost_ret (results_cell_row rfl _ _ _ _ _ _ _ rfl hbx.out Tryz.underlying58 rfl (by rw [HXS.out]; exact flow_info)) rfl ?_
  exact ⟨rfl, hfb.out⟩
end Go.Proofs.YtpanmfdbdgecaaaGreat.C
