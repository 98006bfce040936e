/- The reference's scheduler and engine: New; start. · The law TopTokens, walked. · The law TopEnds, walked. · The law TopTokens, walked. -/
import Derived.Test.YtpanmfdbdgecaaaGreatK20
namespace Go.Proofs.YtpanmfdbdgecaaaGreat.C
open Go.RowKit
set_option linter.unusedVariables false
theorem zrs : (Tryz.prog.info? 105).map (fun i => (i.zero, i.size)) = some (some (.agg (zc 105)), 87) := by kernel_rfl
theorem zrs_ok : AgT (zc 105) 87 := ⟨by kernel_rfl, by kernel_rfl⟩
theorem zre : (Tryz.prog.info? 107).map (fun i => (i.zero, i.size)) = some (some (.agg (zc 107)), 119) := by kernel_rfl
theorem zre_ok : AgT (zc 107) 119 := ⟨by kernel_rfl, by kernel_rfl⟩
theorem zrw : (Tryz.prog.info? 109).map (fun i => (i.zero, i.size)) = some (some (.agg (zc 109)), 120) := by kernel_rfl
theorem zrw_ok : AgT (zc 109) 120 := ⟨by kernel_rfl, by kernel_rfl⟩
theorem build_rs {XP : Array Value} (h : AgT XP 86) : ∃ X, AgT X 87 ∧ ∀ w, (Instr.build 105 #[(0, .agg XP)]).run Tryz.prog w = .ok (.agg X) w := by
  obtain ⟨X, a, b, _⟩ := build_ag (P := Tryz.prog) (places := [(0, 86), (86, 1)]) Tryz.underlying105 zrs zrs_ok (by kernel_rfl) #[(0, .agg XP)] ⟨⟨_, rfl, h.size, by decide⟩, trivial⟩ (fun p hp => by
    obtain rfl := List.mem_singleton.1 hp
    exact ag_cells h)
  exact ⟨X, a, b⟩
theorem build_re {XP : Array Value} (h : AgT XP 87) : ∃ X, AgT X 119 ∧ ∀ w, (Instr.build 107 #[(0, .agg XP)]).run Tryz.prog w = .ok (.agg X) w := by
  obtain ⟨X, a, b, _⟩ := build_ag (P := Tryz.prog) (places := [(0, 87), (87, 1), (88, 15), (103, 16)]) Tryz.underlying107 zre zre_ok (by kernel_rfl) #[(0, .agg XP)] ⟨⟨_, rfl, h.size, by decide⟩, trivial⟩ (fun p hp => by
    obtain rfl := List.mem_singleton.1 hp
    exact ag_cells h)
  exact ⟨X, a, b⟩
theorem ptr_cells (a : Option Addr) : ∀ v ∈ (Value.pointer a).cells.toList, v.oneCell' = true := by
  intro v hv
  have : v = .pointer a := by simpa [Value.cells] using hv
  subst this
  rfl
theorem build_rw {XE : Array Value} (h : AgT XE 119) (eb : Nat) : ∃ X, AgT X 120 ∧ X[0]? = some (.pointer (some ⟨eb, 0, none⟩)) ∧ ∀ w, (Instr.build 109 #[(0, .pointer (some ⟨eb, 0, none⟩)), (1, .agg XE)]).run Tryz.prog w = .ok (.agg X) w := by
  obtain ⟨X, a, b, hX⟩ := build_ag (P := Tryz.prog) (places := [(0, 1), (1, 119)]) Tryz.underlying109 zrw zrw_ok (by kernel_rfl) #[(0, .pointer (some ⟨eb, 0, none⟩)), (1, .agg XE)] ⟨⟨_, rfl, rfl, by decide⟩, ⟨_, rfl, h.size, by decide⟩, trivial⟩ (fun p hp => by
    simp only [List.mem_cons, List.not_mem_nil, or_false] at hp
    rcases hp with rfl | rfl
    · exact ptr_cells _
    · exact ag_cells h)
  refine ⟨X, a, ?_, b⟩
  have hz := zrw_ok.size
  rw [hX, List.getElem?_toArray]
  show (splice (splice (zc 109).toList 0 [.pointer (some ⟨eb, 0, none⟩)]) 1 XE.toList)[0]? = _
  have hl1 : (splice (zc 109).toList 0 [.pointer (some ⟨eb, 0, none⟩)]).length = 120 := by rw [splice_length (by simp; omega), Array.length_toList, hz]
  rw [splice_at (by rw [hl1, Array.length_toList, h.size]; decide), if_pos (by decide), splice_at (by simp; omega), if_neg (by decide), if_pos (by simp)]
  rfl
set_option maxRecDepth 100000 in
theorem rsched_new (cv kv : Array Value) (c : Nat → Int) (w : World) (hv : Cfg cv c) (hk : kv.size = 16) (h1 : kv.all (·.oneCell') = true) (hb : 1 ≤ c 0 ∧ c 0 ≤ 64) (hlv : 1 ≤ c 2 ∧ c 2 ≤ 4) (hbn : 1 ≤ c 3 ∧ c 3 ≤ 64) :
    Calls Tryz.prog 90 #[.agg cv, .agg kv] w fun e w' => ∃ X, e = .returned (.agg X) ∧ AgT X 87 ∧ Below w.heap.size w w' := by
  have CP := Lib.hid (fun w' => rpolice_new cv kv c w' hv hk h1 hb hlv hbn)
  have HK := Lib.hid hk
  have hcs : (Tryz.prog.info? 78).map (·.size) = some cv.size := by rw [hv.size]; kernel_rfl
  have HCS := Lib.hid hcs
  have hz := zrs
  have hzs := zrs_ok.size
  have hsz0 : (Tryz.prog.info? 105).map (·.size) = some 87 := by kernel_rfl
  generalize zc 105 = Z at *
  have HZ := Lib.hid hz
  have HZS := Lib.hid hzs
  have HSZ0 := Lib.hid hsz0
  clear hz hzs hv hk h1 hb hlv hbn hcs hsz0
  refine calls_hide fun Q HQ => ?_
  go_enter Tryz.func90, Tryz.ntmps90
  go_upto_region 1 with (first | ((with_reducible refine arm_box 2 0 78 cv ?_ ?_); rfl; intro w1 HB1 HX1 HS1) | ((with_reducible refine arm_box 3 1 22 kv ?_ ?_); rfl; intro w2 HB2 HX2 HS2) | ((with_reducible refine arm_alloc 4 105 Z 87 HZ.out ?_); intro w3 HB3 HX3 HS3))
  have B3 := Lib.hid ((HB1.out.trans (HB2.out.mono HB1.out.size)).trans (HB3.out.mono (Nat.le_trans HB1.out.size HB2.out.size)))
  have hl1 := box_load (t := 78) (keep_block HB3.out (keep_block HB2.out HX1.out)) _ Tryz.underlying78 rfl HCS.out
  have hl2 := keys_load HK.out (keep_block HB3.out HX2.out)
  have R3 := Lib.hid HX3.out
  have HRB := Lib.hid (show w.heap.size ≤ w2.heap.size from Nat.le_trans HB1.out.size HB2.out.size)
  generalize w1.heap.size = kb at *
  generalize w2.heap.size = rb at *
  clear HB1 HX1 HS1 HB2 HX2 HS2 HB3 HX3 HS3
  go_wp2_with (first | ((with_reducible refine arm_load 5 2 78 (.pointer (some ⟨w.heap.size, 0, none⟩)) (.agg cv) hl1 ?_ ?_); rfl) | ((with_reducible refine arm_load 6 3 22 (.pointer (some ⟨kb, 0, none⟩)) (.agg kv) hl2 ?_ ?_); rfl))
  refine (CP.out _).mono ?_
  rintro e w4 ⟨XP, rfl, hP, hB⟩
  obtain ⟨X, hX, hbX⟩ := build_rs hP
  have hb4 := hbX w4
  have hr := keep_block hB R3.out
  have hsz : (Tryz.prog.info? 105).map (·.size) = some X.size := by rw [hX.size]; exact HSZ0.out
  have hst := box_store (t := 105) (x := X) hr hsz hX.one (HZS.out.trans hX.size.symm)
  have hbx := Lib.hid (box_whole (cs := X) hr (hX.size.trans HZS.out.symm))
  have hf := Lib.hid (below_setCells (b := rb) HRB.out X.toList 0 (B3.out.trans (hB.mono B3.out.size)))
  have HSZ := Lib.hid hsz
  have HX := Lib.hid hX
  clear hbX hr hsz hX hB hP hl1 hl2
  go_wp2_with (first | ((with_reducible refine arm_build 8 105 _ #[(0, .agg XP)] _ hb4 ?_ ?_); (first | rfl | (focus (simp [Act.eval]; done)) | simp [Act.eval, Act.put])) | ((with_reducible refine arm_store 4 8 105 _ _ _ hst ?_ ?_ ?_); rfl; rfl))
  refine bodyPost_ret (results_cell_row rfl _ _ _ _ _ _ _ rfl hbx.out Tryz.underlying105 rfl HSZ.out) rfl ?_
  exact HQ.out _ _ ⟨X, rfl, HX.out, hf.out⟩
set_option maxRecDepth 100000 in
theorem rengine_new (cv kv : Array Value) (c : Nat → Int) (w : World) (hv : Cfg cv c) (hk : kv.size = 16) (h1 : kv.all (·.oneCell') = true) (hb : 1 ≤ c 0 ∧ c 0 ≤ 64) (hlv : 1 ≤ c 2 ∧ c 2 ≤ 4) (hbn : 1 ≤ c 3 ∧ c 3 ≤ 64) :
    Calls Tryz.prog 48 #[.agg cv, .agg kv] w fun e w' => ∃ X, e = .returned (.agg X) ∧ AgT X 119 ∧ Below w.heap.size w w' := by
  have CP := Lib.hid (fun w' => rsched_new cv kv c w' hv hk h1 hb hlv hbn)
  have HK := Lib.hid hk
  have hcs : (Tryz.prog.info? 78).map (·.size) = some cv.size := by rw [hv.size]; kernel_rfl
  have HCS := Lib.hid hcs
  have hz := zre
  have hzs := zre_ok.size
  have hsz0 : (Tryz.prog.info? 107).map (·.size) = some 119 := by kernel_rfl
  generalize zc 107 = Z at *
  have HZ := Lib.hid hz
  have HZS := Lib.hid hzs
  have HSZ0 := Lib.hid hsz0
  clear hz hzs hv hk h1 hb hlv hbn hcs hsz0
  refine calls_hide fun Q HQ => ?_
  go_enter Tryz.func48, Tryz.ntmps48
  go_upto_region 1 with (first | ((with_reducible refine arm_box 2 0 78 cv ?_ ?_); rfl; intro w1 HB1 HX1 HS1) | ((with_reducible refine arm_box 3 1 22 kv ?_ ?_); rfl; intro w2 HB2 HX2 HS2) | ((with_reducible refine arm_alloc 4 107 Z 119 HZ.out ?_); intro w3 HB3 HX3 HS3))
  have B3 := Lib.hid ((HB1.out.trans (HB2.out.mono HB1.out.size)).trans (HB3.out.mono (Nat.le_trans HB1.out.size HB2.out.size)))
  have hl1 := box_load (t := 78) (keep_block HB3.out (keep_block HB2.out HX1.out)) _ Tryz.underlying78 rfl HCS.out
  have hl2 := keys_load HK.out (keep_block HB3.out HX2.out)
  have R3 := Lib.hid HX3.out
  have HRB := Lib.hid (show w.heap.size ≤ w2.heap.size from Nat.le_trans HB1.out.size HB2.out.size)
  generalize w1.heap.size = kb at *
  generalize w2.heap.size = rb at *
  clear HB1 HX1 HS1 HB2 HX2 HS2 HB3 HX3 HS3
  go_wp2_with (first | ((with_reducible refine arm_load 5 2 78 (.pointer (some ⟨w.heap.size, 0, none⟩)) (.agg cv) hl1 ?_ ?_); rfl) | ((with_reducible refine arm_load 6 3 22 (.pointer (some ⟨kb, 0, none⟩)) (.agg kv) hl2 ?_ ?_); rfl))
  refine (CP.out _).mono ?_
  rintro e w4 ⟨XP, rfl, hP, hB⟩
  obtain ⟨X, hX, hbX⟩ := build_re hP
  have hb4 := hbX w4
  have hr := keep_block hB R3.out
  have hsz : (Tryz.prog.info? 107).map (·.size) = some X.size := by rw [hX.size]; exact HSZ0.out
  have hst := box_store (t := 107) (x := X) hr hsz hX.one (HZS.out.trans hX.size.symm)
  have hbx := Lib.hid (box_whole (cs := X) hr (hX.size.trans HZS.out.symm))
  have hf := Lib.hid (below_setCells (b := rb) HRB.out X.toList 0 (B3.out.trans (hB.mono B3.out.size)))
  have HSZ := Lib.hid hsz
  have HX := Lib.hid hX
  clear hbX hr hsz hX hB hP hl1 hl2
  go_wp2_with (first | ((with_reducible refine arm_build 8 107 _ #[(0, .agg XP)] _ hb4 ?_ ?_); (first | rfl | (focus (simp [Act.eval]; done)) | simp [Act.eval, Act.put])) | ((with_reducible refine arm_store 4 8 107 _ _ _ hst ?_ ?_ ?_); rfl; rfl))
  refine bodyPost_ret (results_cell_row rfl _ _ _ _ _ _ _ rfl hbx.out Tryz.underlying107 rfl HSZ.out) rfl ?_
  exact HQ.out _ _ ⟨X, rfl, HX.out, hf.out⟩
set_option maxRecDepth 100000 in
theorem start_no (cv kv : Array Value) (c : Nat → Int) (w : World) (hv : Cfg cv c) (hk : kv.size = 16) (hr : ¬ RightC c) :
    Calls Tryz.prog 24 #[.agg cv, .agg kv] w fun e w' => (∃ X, AgT X 120 ∧ e = .returned (.tuple #[.agg X, .bool false])) ∧ Below w.heap.size w w' := by
  have CP := Lib.hid (fun w' => engine_no cv kv c w' hv hk hr)
  have HK := Lib.hid hk
  have HV := Lib.hid hv
  have hz := zrw
  have hzs := zrw_ok
  have hsz0 : (Tryz.prog.info? 109).map (·.size) = some 120 := by kernel_rfl
  have hb0 : ∀ w, (Instr.build 109 #[]).run Tryz.prog w = .ok (.agg (zc 109)) w := fun w => run_build w 109 #[] _ (by kernel_rfl)
  generalize zc 109 = Z at *
  have HZ := Lib.hid hz
  have HZS := Lib.hid hzs
  have HB0 := Lib.hid hb0
  have HSZ := Lib.hid (show (Tryz.prog.info? 109).map (·.size) = some Z.size by rw [hzs.size]; exact hsz0)
  clear hz hzs hv hk hsz0 hb0 hr
  refine calls_hide fun Q HQ => ?_
  go_enter Tryz.func24, Tryz.ntmps24
  go_upto_region 1 with (first | ((with_reducible refine arm_box 2 0 26 cv ?_ ?_); rfl; intro w1 HB1 HX1 HS1) | ((with_reducible refine arm_box 3 1 22 kv ?_ ?_); rfl; intro w2 HB2 HX2 HS2) | ((with_reducible refine arm_alloc 4 109 Z 120 HZ.out ?_); intro w3 HB3 HX3 HS3))
  have B3 := Lib.hid ((HB1.out.trans (HB2.out.mono HB1.out.size)).trans (HB3.out.mono (Nat.le_trans HB1.out.size HB2.out.size)))
  have hl1 := cfg_load (keep_block HB3.out (keep_block HB2.out HX1.out)) HV.out
  have hl2 := keys_load HK.out (keep_block HB3.out HX2.out)
  have R3 := Lib.hid HX3.out
  have HRB := Lib.hid (show w.heap.size ≤ w2.heap.size from Nat.le_trans HB1.out.size HB2.out.size)
  generalize w1.heap.size = kb at *
  generalize w2.heap.size = rb at *
  clear HB1 HX1 HS1 HB2 HX2 HS2 HB3 HX3 HS3
  go_wp2_with (first | ((with_reducible refine arm_load 9 2 26 (.pointer (some ⟨w.heap.size, 0, none⟩)) (.agg cv) hl1 ?_ ?_); rfl) | ((with_reducible refine arm_load 10 3 22 (.pointer (some ⟨kb, 0, none⟩)) (.agg kv) hl2 ?_ ?_); rfl))
  refine (CP.out _).mono ?_
  rintro e w4 ⟨rfl, hB⟩
  have hb4 := HB0.out w4
  have hr := keep_block hB R3.out
  have hst := box_store (t := 109) (x := Z) hr HSZ.out HZS.out.one rfl
  have hbx := Lib.hid (box_whole (cs := Z) hr rfl)
  have hf := Lib.hid (below_setCells (b := rb) HRB.out Z.toList 0 (B3.out.trans (hB.mono B3.out.size)))
  clear hr hB hl1 hl2
  go_wp2_with (first | ((with_reducible refine arm_build 21 109 _ #[] _ hb4 ?_ ?_); (first | rfl | (focus (simp [Act.eval]; done)) | simp [Act.eval, Act.put])) | ((with_reducible refine arm_store 4 21 109 _ _ _ hst ?_ ?_ ?_); rfl; rfl))
  refine bodyPost_ret (res_row_tmp rfl _ _ _ _ _ _ _ rfl hbx.out Tryz.underlying109 rfl HSZ.out) rfl ?_
  exact HQ.out _ _ ⟨⟨Z, HZS.out, rfl⟩, hf.out⟩
set_option maxRecDepth 100000 in
set_option maxHeartbeats 1000000 in
theorem start_yes (cv kv : Array Value) (c : Nat → Int) (w : World) (hv : Cfg cv c) (hk : kv.size = 16) (h1 : kv.all (·.oneCell') = true) (hr : RightC c) (hpk : c 1 ≤ 50) :
    Calls Tryz.prog 24 #[.agg cv, .agg kv] w fun e w' => ∃ (X : Array Value) (eb : Nat) (G : Array Value), e = .returned (.tuple #[.agg X, .bool true]) ∧ AgT X 120 ∧ X[0]? = some (.pointer (some ⟨eb, 0, none⟩)) ∧ EngN (fun k => k < w.heap.size) eb ⟨cv, c, kv, G⟩ 0 (TK ⟨cv, c, kv, G⟩ 0 0 0) w' ∧ Below w.heap.size w w' := by
  have CE := Lib.hid (fun w' => tok_begin cv kv c w' hv hr hk)
  have CR := Lib.hid (fun w' => rengine_new cv kv c w' hv hk h1 hr.buckets hr.levels hr.bins)
  have HK := Lib.hid hk
  have HV := Lib.hid hv
  have hz := zrw
  have hzs := zrw_ok.size
  have hsz0 : (Tryz.prog.info? 109).map (·.size) = some 120 := by kernel_rfl
  generalize zc 109 = Z at *
  have HZ := Lib.hid hz
  have HZS := Lib.hid hzs
  have HSZ0 := Lib.hid hsz0
  clear hz hzs hv hk hsz0 h1 hr
  refine calls_hide fun Q HQ => ?_
  go_enter Tryz.func24, Tryz.ntmps24
  go_upto_region 1 with (first | ((with_reducible refine arm_box 2 0 26 cv ?_ ?_); rfl; intro w1 HB1 HX1 HS1) | ((with_reducible refine arm_box 3 1 22 kv ?_ ?_); rfl; intro w2 HB2 HX2 HS2) | ((with_reducible refine arm_alloc 4 109 Z 120 HZ.out ?_); intro w3 HB3 HX3 HS3))
  have B3 := Lib.hid ((HB1.out.trans (HB2.out.mono HB1.out.size)).trans (HB3.out.mono (Nat.le_trans HB1.out.size HB2.out.size)))
  have C3 := Lib.hid (keep_block HB3.out (keep_block HB2.out HX1.out))
  have K3 := Lib.hid (keep_block HB3.out HX2.out)
  have hl1 := cfg_load C3.out HV.out
  have hl2 := keys_load HK.out K3.out
  have R3 := Lib.hid HX3.out
  have HRB := Lib.hid (show w.heap.size ≤ w2.heap.size from Nat.le_trans HB1.out.size HB2.out.size)
  generalize w1.heap.size = kb at *
  generalize w2.heap.size = rb at *
  clear HB1 HX1 HS1 HB2 HX2 HS2 HB3 HX3 HS3
  go_wp2_with (first | ((with_reducible refine arm_load 9 2 26 (.pointer (some ⟨w.heap.size, 0, none⟩)) (.agg cv) hl1 ?_ ?_); rfl) | ((with_reducible refine arm_load 10 3 22 (.pointer (some ⟨kb, 0, none⟩)) (.agg kv) hl2 ?_ ?_); rfl))
  refine (CE.out _).mono ?_
  rintro e w4 ⟨eb, G, rfl, hE, hB4⟩
  have HE4 := Lib.hid hE
  have C4 := Lib.hid (keep_block hB4 C3.out)
  have K4 := Lib.hid (keep_block hB4 K3.out)
  have R4 := Lib.hid (keep_block hB4 R3.out)
  have B4 := Lib.hid (B3.out.trans (hB4.mono B3.out.size))
  have HLT := Lib.hid (show rb < w3.heap.size from (Array.getElem?_eq_some_iff.1 R3.out).1)
  have HWL := Lib.hid B3.out.size
  clear hE hB4 hl1 hl2 C3 K3 R3 B3 CE
  have hc1 := HV.out.cell C4.out 1 (by decide)
  have hl1 := box_load (t := 78) C4.out _ Tryz.underlying78 rfl (by rw [HV.out.size]; kernel_rfl)
  have hl1' := cfg_load C4.out HV.out
  have hl2 := keys_load HK.out K4.out
  go_wp2_with (first | ((with_reducible refine arm_load 23 2 26 (.pointer (some ⟨w.heap.size, 0, none⟩)) (.agg cv) hl1' ?_ ?_); rfl) | ((with_reducible refine arm_load 24 3 22 (.pointer (some ⟨kb, 0, none⟩)) (.agg kv) hl2 ?_ ?_); rfl))
  refine (CR.out _).mono ?_
  rintro e w5 ⟨XE, rfl, hX5, hB5⟩
  obtain ⟨X, hX, hX0, hbX⟩ := build_rw hX5 eb
  have hb5 := hbX w5
  have hr := keep_block hB5 R4.out
  have hsz : (Tryz.prog.info? 109).map (·.size) = some X.size := by rw [hX.size]; exact HSZ0.out
  have hst := box_store (t := 109) (x := X) hr hsz hX.one (HZS.out.trans hX.size.symm)
  have hbx := Lib.hid (box_whole (cs := X) hr (hX.size.trans HZS.out.symm))
  have hf := Lib.hid (below_setCells (b := rb) HRB.out X.toList 0 (B4.out.trans (hB5.mono B4.out.size)))
  have HE5 := Lib.hid (((HE4.out.below hB5).set (x := rb) HLT.out X.toList 0).sub (Z := fun k => k < w.heap.size) (fun k hk => Nat.lt_of_lt_of_le hk HWL.out))
  have HSZ := Lib.hid hsz
  have HX := Lib.hid hX
  have HX0 := Lib.hid hX0
  clear hbX hr hsz hX hX0 hB5 hX5 hl1 hl1' hl2 hc1 HE4
  go_wp2_with (first | ((with_reducible refine arm_build 26 109 _ #[(0, .pointer (some ⟨eb, 0, none⟩)), (1, .agg XE)] _ hb5 ?_ ?_); (first | rfl | (focus (simp [Act.eval]; done)) | simp [Act.eval, Act.put])) | ((with_reducible refine arm_store 4 26 109 _ _ _ hst ?_ ?_ ?_); rfl; rfl))
  refine bodyPost_ret (res_row_tmp rfl _ _ _ _ _ _ _ rfl hbx.out Tryz.underlying109 rfl HSZ.out) rfl ?_
  exact HQ.out _ _ ⟨X, eb, G, rfl, HX.out, HX0.out, HE5.out, hf.out⟩
end Go.Proofs.YtpanmfdbdgecaaaGreat.C

namespace Go.Proofs.YtpanmfdbdgecaaaGreat.C
open Go.RowKit
set_option linter.unusedVariables false
theorem blockAdd (a : Addr) (n : Nat) : (a.add n).block = a.block := by unfold Addr.add; split <;> rfl
/-- Numbers that came in, told by their list. -/
def Nums (k : IntKind) (w : World) (a : Option Addr) (L : List Int) : Prop := ∀ (i : Nat) (v : Int), L[i]? = some v → ∃ x, a = some x ∧ x.block < w.heap.size ∧ w.cell? (x.add i) = some (.int k v) ∧ (Lit.int k v).wf = true
theorem nums_of {k : IntKind} {w : World} {a : Option Addr} {len cap : Nat} {zs : List Int} (h : IsRow k w a len cap zs) : ∃ L : List Int, L.length = len ∧ Nums k w a L ∧ len ≤ 9223372036854775807 := by
  rcases h with ⟨rfl, rfl, rfl, rfl⟩ | ⟨x, rfl, hl, hc, hz, hcell, hwf⟩
  · exact ⟨[], rfl, fun i v h => by simp at h, by omega⟩
  · refine ⟨zs.take len, by simp; omega, fun i v hv => ?_, by simp only [maxLen] at hc; omega⟩
    have hi : i < len := by
      rcases Nat.lt_or_ge i len with h | h
      · exact h
      · rw [List.getElem?_eq_none (by simp; omega)] at hv; cases hv
    rw [List.getElem?_take_of_lt hi] at hv
    have hz0 : i < zs.length := by omega
    have hc0 := hcell i hz0
    have hb := World.block_lt_of_cell? w _ hc0
    rw [List.getD_eq_getElem?_getD, hv] at hc0
    exact ⟨x, rfl, by rw [← blockAdd]; exact hb, hc0, hwf v (List.mem_of_getElem? hv)⟩
theorem Nums.kept {k : IntKind} {w w' : World} {a : Option Addr} {L : List Int} (h : Nums k w a L) (hb : ∀ b, b < w.heap.size → w'.heap[b]? = w.heap[b]?) {i : Nat} {v : Int} (hv : L[i]? = some v) : ∃ x, a = some x ∧ w'.cell? (x.add i) = some (.int k v) ∧ (Lit.int k v).wf = true := by
  obtain ⟨x, hx, hlt, hc, hw⟩ := h i v hv
  exact ⟨x, hx, by rw [World.cell?_of_block (hb _ (by rw [blockAdd]; exact hlt))]; exact hc, hw⟩
set_option maxRecDepth 100000 in
theorem key_types : Tryz.prog.cellTypes Tryz.prog.depth 22 = some (List.replicate 16 5) := by kernel_rfl
section
open Go.ChangeShapes Go.WideShapes
variable {H : Type} {enc : TypeId × Value → H} {w : World} {base : Nat} {held : Bool}
set_option maxRecDepth 100000 in
theorem open_key2 {spare : Nat → Bool} {r : Reach} {b0 : Nat} {v : Value} {d : DataW H} {p : List MemPlace} (hv : Value.okWide Tryz.prog w r b0 22 v) (h : DataW.Trod enc Tryz.prog w base spare held 22 v d p) :
    ∃ cs : Array Value, v = .agg cs ∧ cs.size = 16 ∧ cs.all (·.oneCell') = true := by
  have hu := Tryz.underlying22
  simp only [Value.okWide, hu] at hv
  obtain ⟨cs, rfl, hs, ts, ht, _, hc⟩ := hv
  rw [key_types] at ht
  injection ht with ht
  subst ht
  refine ⟨cs, rfl, hs.trans (by kernel_rfl), ?_⟩
  rw [Array.all_eq_true]
  intro i hi
  obtain ⟨u, h1, h2⟩ := hc i cs[i] (Array.getElem?_eq_getElem hi)
  have hu2 := (List.mem_replicate.1 (List.mem_of_getElem? h1)).2
  subst hu2
  obtain ⟨n, hn⟩ := cell_int Tryz.underlying5 h2
  rw [hn]
  rfl
noncomputable def zero_key2 : Value := .agg KEZ
noncomputable def zero_config : Value := .agg CZ
end
set_option maxRecDepth 100000 in
/-- Not for these numbers: the program is awake. -/
theorem tokens_skip (cv kv : Array Value) (c : Nat → Int) (a2 : Option Addr) (n2 c2 : Nat) (a3 : Option Addr) (n3 c3 : Nat) (w : World) (hv : Cfg cv c) (hm2 : n2 ≤ 9223372036854775807) (hm3 : n3 ≤ 9223372036854775807) (hno : 40 < n2 ∨ (n2 ≤ 40 ∧ n3 < n2) ∨ (n2 ≤ 40 ∧ n2 ≤ n3 ∧ 50 < c 1) ∨ (n2 ≤ 40 ∧ n2 ≤ n3 ∧ c 1 ≤ 50 ∧ 1048576 < c 18)) :
    Calls Tryz.prog 7 #[.agg cv, .agg kv, .slice a2 n2 c2, .slice a3 n3 c3] w fun e w' => e = .returned (.bool true) ∧ Below w.heap.size w w' := by
  have CA := Lib.hid awake_is
  have HV := Lib.hid hv
  clear hv
  rcases hno with h0 | ⟨h0, h1⟩ | ⟨h0, h1, h2⟩ | ⟨h0, h1, h2, h3⟩
  · have d0 : decide (40 < n2) = true := decide_eq_true h0
    have e0 : (40 : Int) < (n2 : Int) := by omega
    refine calls_hide fun Q HQ => ?_
    go_enter Tryz.func7, Tryz.ntmps7
    go_upto_region 1 with (first | ((with_reducible refine arm_box 4 0 26 cv rfl ?_); intro w1 HB1 HX1 HS1) | ((with_reducible refine arm_box 5 1 22 kv rfl ?_); intro w2 HB2 HX2 HS2))
    have B2 := Lib.hid (HB1.out.trans (HB2.out.mono HB1.out.size))
    clear HB1 HX1 HS1 HB2 HX2 HS2
    go_wp2_with fail
    refine (CA.out _).mono ?_
    rintro e w3 ⟨rfl, hB3⟩
    have B3 := Lib.hid (B2.out.trans (hB3.mono B2.out.size))
    clear hB3 B2
    go_wp2_with fail
    refine (CA.out _).mono ?_
    rintro e w4 ⟨rfl, hB4⟩
    have B4 := Lib.hid (B3.out.trans (hB4.mono B3.out.size))
    clear hB4 B3
    go_wp2
    exact HQ.out _ _ ⟨rfl, B4.out⟩
  · have d0 : decide (40 < n2) = false := decide_eq_false (by omega)
    have d1 : decide (n3 < n2) = true := decide_eq_true h1
    have e0 : (n2 : Int) ≤ 40 := by omega
    have e1 : (n3 : Int) < (n2 : Int) := by omega
    refine calls_hide fun Q HQ => ?_
    go_enter Tryz.func7, Tryz.ntmps7
    go_upto_region 1 with (first | ((with_reducible refine arm_box 4 0 26 cv rfl ?_); intro w1 HB1 HX1 HS1) | ((with_reducible refine arm_box 5 1 22 kv rfl ?_); intro w2 HB2 HX2 HS2))
    have B2 := Lib.hid (HB1.out.trans (HB2.out.mono HB1.out.size))
    have X2 := Lib.hid (keep_block HB2.out HX1.out)
    clear HB1 HX1 HS1 HB2 HX2 HS2
    go_wp2_with fail
    refine (CA.out _).mono ?_
    rintro e w3 ⟨rfl, hB3⟩
    have B3 := Lib.hid (B2.out.trans (hB3.mono B2.out.size))
    clear hB3 B2 X2
    go_wp2_with fail
    refine (CA.out _).mono ?_
    rintro e w4 ⟨rfl, hB4⟩
    have B4 := Lib.hid (B3.out.trans (hB4.mono B3.out.size))
    clear hB4 B3
    go_wp2
    exact HQ.out _ _ ⟨rfl, B4.out⟩
  · skip
    have d0 : decide (40 < n2) = false := decide_eq_false (by omega)
    have d1 : decide (n3 < n2) = false := decide_eq_false (by omega)
    have e0 : (n2 : Int) ≤ 40 := by omega
    have e1 : (n2 : Int) ≤ (n3 : Int) := by omega
    refine calls_hide fun Q HQ => ?_
    go_enter Tryz.func7, Tryz.ntmps7
    go_upto_region 1 with (first | ((with_reducible refine arm_box 4 0 26 cv rfl ?_); intro w1 HB1 HX1 HS1) | ((with_reducible refine arm_box 5 1 22 kv rfl ?_); intro w2 HB2 HX2 HS2))
    have B2 := Lib.hid (HB1.out.trans (HB2.out.mono HB1.out.size))
    have X2 := Lib.hid (keep_block HB2.out HX1.out)
    clear HB1 HX1 HS1 HB2 HX2 HS2
    go_wp2_with fail
    refine (CA.out _).mono ?_
    rintro e w3 ⟨rfl, hB3⟩
    have B3 := Lib.hid (B2.out.trans (hB3.mono B2.out.size))
    have k1 := HV.out.cell (keep_block hB3 X2.out) 1 (by decide)
    clear hB3 B2 X2
    go_wp2_with fail
    refine (CA.out _).mono ?_
    rintro e w4 ⟨rfl, hB4⟩
    have B4 := Lib.hid (B3.out.trans (hB4.mono B3.out.size))
    clear hB4 B3
    go_wp2
    exact HQ.out _ _ ⟨rfl, B4.out⟩
  · skip
    have d0 : decide (40 < n2) = false := decide_eq_false (by omega)
    have d1 : decide (n3 < n2) = false := decide_eq_false (by omega)
    have e0 : (n2 : Int) ≤ 40 := by omega
    have e1 : (n2 : Int) ≤ (n3 : Int) := by omega
    refine calls_hide fun Q HQ => ?_
    go_enter Tryz.func7, Tryz.ntmps7
    go_upto_region 1 with (first | ((with_reducible refine arm_box 4 0 26 cv rfl ?_); intro w1 HB1 HX1 HS1) | ((with_reducible refine arm_box 5 1 22 kv rfl ?_); intro w2 HB2 HX2 HS2))
    have B2 := Lib.hid (HB1.out.trans (HB2.out.mono HB1.out.size))
    have X2 := Lib.hid (keep_block HB2.out HX1.out)
    clear HB1 HX1 HS1 HB2 HX2 HS2
    go_wp2_with fail
    refine (CA.out _).mono ?_
    rintro e w3 ⟨rfl, hB3⟩
    have B3 := Lib.hid (B2.out.trans (hB3.mono B2.out.size))
    have k1 := HV.out.cell (keep_block hB3 X2.out) 1 (by decide)
    have k18 := HV.out.cell (keep_block hB3 X2.out) 18 (by decide)
    clear hB3 B2 X2
    go_wp2_with fail
    refine (CA.out _).mono ?_
    rintro e w4 ⟨rfl, hB4⟩
    have B4 := Lib.hid (B3.out.trans (hB4.mono B3.out.size))
    clear hB4 B3
    go_wp2
    exact HQ.out _ _ ⟨rfl, B4.out⟩
end Go.Proofs.YtpanmfdbdgecaaaGreat.C

namespace Go.Proofs.YtpanmfdbdgecaaaGreat.C
open Go.RowKit
set_option linter.unusedVariables false
section
open Go.ChangeShapes Go.WideShapes
variable {H : Type} {enc : TypeId × Value → H} {w : World} {base : Nat} {held : Bool}
set_option maxRecDepth 100000 in
theorem open_key {spare : Nat → Bool} {r : Reach} {b0 : Nat} {v : Value} {d : DataW H} {p : List MemPlace} (hv : Value.okWide Tryz.prog w r b0 22 v) (h : DataW.Trod enc Tryz.prog w base spare held 22 v d p) :
    ∃ cs : Array Value, v = .agg cs ∧ cs.size = 16 := by
  have hu := Tryz.underlying22
  simp only [Value.okWide, hu] at hv
  obtain ⟨cs, h1, h2⟩ := hv
  subst h1
  exact ⟨cs, rfl, h2.1.trans (by kernel_rfl)⟩
noncomputable def zero_key : Value := .agg KEZ
end
theorem Cfg.set {cv : Array Value} {c : Nat → Int} (h : Cfg cv c) (i : Nat) (v : Int) : Cfg (cv.setIfInBounds i (.int .i64 v)) (fun k => if k = i then v else c k) :=
  ⟨by rw [Array.size_setIfInBounds]; exact h.size, fun k hk => by
    by_cases e : k = i
    · subst e
      rw [Array.getElem?_setIfInBounds_self_of_lt (by rw [h.size]; exact hk), if_pos rfl]
    · rw [Array.getElem?_setIfInBounds_ne (fun e2 => e e2.symm), if_neg e]
      exact h.at_ k hk⟩
theorem Cfg.congr {cv : Array Value} {c d : Nat → Int} (h : Cfg cv c) (e : ∀ k, k < 20 → c k = d k) : Cfg cv d := ⟨h.size, fun i hi => by rw [← e i hi]; exact h.at_ i hi⟩
theorem ends_cfg (T : Int) : Cfg ((((((cfgV litC).setIfInBounds 17 (.int .i64 T)).setIfInBounds 16 (.int .i64 1)).setIfInBounds 19 (.int .i64 1048576)).setIfInBounds 15 (.int .i64 1)).setIfInBounds 1 (.int .i64 9)) (endC T) := by
  refine Cfg.congr ((((((cfgV_ok litC).set 17 T).set 16 1).set 19 1048576).set 15 1).set 1 9) fun i hi => ?_
  have : i = 0 ∨ i = 1 ∨ i = 2 ∨ i = 3 ∨ i = 4 ∨ i = 5 ∨ i = 6 ∨ i = 7 ∨ i = 8 ∨ i = 9 ∨ i = 10 ∨ i = 11 ∨ i = 12 ∨ i = 13 ∨ i = 14 ∨ i = 15 ∨ i = 16 ∨ i = 17 ∨ i = 18 ∨ i = 19 := by omega
  rcases this with h | h | h | h | h | h | h | h | h | h | h | h | h | h | h | h | h | h | h | h <;> subst h <;> rfl
def VZ0 : Array Value := #[.int .i64 0, .int .i64 0, .int .i64 0, .int .i64 0, .bool false, .bool false]
set_option maxRecDepth 100000 in
set_option maxHeartbeats 4000000 in
theorem walk_ends (kv : Array Value) (term at_ between : Int) (w : World) (hks : kv.size = 16) (h1 : (Lit.int .u64 term).wf = true) (h2 : (Lit.int .u64 at_).wf = true) (h3 : (Lit.int .u64 between).wf = true) :
    Calls Tryz.prog 5 #[.agg kv, .int .u64 term, .int .u64 at_, .int .u64 between] w fun e w' => e = .returned (.bool true) ∧ Below w.heap.size w w' := by
  obtain ⟨t0, t1⟩ := bounds_u64 h1
  obtain ⟨a0, a1⟩ := bounds_u64 h2
  obtain ⟨b0, b1⟩ := bounds_u64 h3
  clear h1 h2 h3
  have CA := Lib.hid awake_is
  have CL := Lib.hid little_is
  obtain ⟨dz, hdz⟩ : ∃ z, DZ = z := ⟨_, rfl⟩
  have hdb := build_dz
  have hds : dz.size = 2 := by rw [← hdz]; rfl
  rw [hdz] at hdb
  clear hdz
  have hst := cz_zero
  have hcfg := cfg_all litC
  have HV := Lib.hid (cfgV_ok litC)
  have HC := Lib.hid ends_cfg
  have hc20 : (Tryz.prog.info? 26).map (·.size) = some (cfgV litC).size := by rw [(cfgV_ok litC).size]; exact cfg_size
  have hcz : CZ.size = (cfgV litC).size := (cfgV_ok _).size.trans (cfgV_ok litC).size.symm
  generalize cfgV litC = cv at *
  generalize CZ = Z at *
  have HST := Lib.hid hst
  have HCF := Lib.hid hcfg
  have HC20 := Lib.hid hc20
  have HCZ := Lib.hid hcz
  have HDB := Lib.hid hdb
  have HDS := Lib.hid hds
  clear hst hcfg hc20 hcz hdb hds
  obtain ⟨tt, htt⟩ : ∃ tt, term.tmod 1099511627776 = tt := ⟨_, rfl⟩
  have htt0 : 0 ≤ tt ∧ tt < 1099511627776 := by rw [Int.tmod_eq_emod_of_nonneg t0] at htt; omega
  have hw1 : IntKind.i64.wrap tt = tt := IntWalk.i64_in _ (by omega)
  obtain ⟨T, hT⟩ : ∃ T, 1 + tt = T := ⟨_, rfl⟩
  have hT0 : 1 ≤ T ∧ T ≤ 1099511627776 := by omega
  have hw2 : IntKind.i64.wrap T = T := IntWalk.i64_in _ (by omega)
  obtain ⟨n0, hn0⟩ : ∃ n0, at_.tmod 1099511627776 = n0 := ⟨_, rfl⟩
  have hn00 : 0 ≤ n0 ∧ n0 < 1099511627776 := by rw [Int.tmod_eq_emod_of_nonneg a0] at hn0; omega
  have hw3 : IntKind.i64.wrap n0 = n0 := IntWalk.i64_in _ (by omega)
  have HT0 := Lib.hid hT0
  have HN0 := Lib.hid hn00
  have HBT := Lib.hid (show 0 ≤ between ∧ between ≤ 18446744073709551615 from ⟨b0, b1⟩)
  have HKS := Lib.hid hks
  clear hT0 hn00 b0 b1 hks htt0 t0 t1 a0 a1
  go_enter Tryz.func5, Tryz.ntmps5
  go_upto_region 1 with ((with_reducible refine arm_box 4 0 22 kv rfl ?_); intro w1 HB1 HX1 HS1)
  obtain ⟨kb, hkb⟩ : ∃ k, k = w.heap.size := ⟨_, rfl⟩
  rw [← hkb] at HX1 ⊢
  have HKB := Lib.hid hkb
  clear hkb
  go_wp2_with fail
  refine (CA.out _).mono ?_
  rintro e w2 ⟨rfl, hB2⟩
  have HX2 := Lib.hid (show w2.heap[kb]? = some (.cells kv 22 (0, 0)) from (hB2.block kb (by have := HKB.out; have := HS1.out; omega)).trans HX1.out)
  have HB2 := Lib.hid (HB1.out.trans (hB2.mono HB1.out.size))
  clear hB2 HX1 CA
  go_wp2_with fail
  refine (CL.out _).mono ?_
  rintro e w3 ⟨rfl, hB3⟩
  have HX3 := Lib.hid (keep_block hB3 HX2.out)
  have HB3 := Lib.hid (HB2.out.trans (hB3.mono HB2.out.size))
  clear hB3 HX2 HB2 CL HB1 HS1
  obtain ⟨cb, hcb⟩ : ∃ c, c = w3.heap.size := ⟨_, rfl⟩
  have HK3 := Lib.hid (show kb < w3.heap.size from (Array.getElem?_eq_some_iff.1 HX3.out).1)
  go_upto_region 4 with (first | ((with_reducible refine arm_alloc 9 26 Z 20 HST.out ?_); intro w4 HB4 HX4 HS4; have hst := box_store (t := 26) (x := cv) HX4.out HC20.out HCF.out HCZ.out) | ((with_reducible refine arm_store 9 16 26 _ _ _ hst ?_ ?_ ?_); rfl; rfl))
  clear hst
  have hX5 := box_whole HX4.out (cs := cv) HCZ.out.symm
  have hB5 := below_setCells (b := w3.heap.size) (Nat.le_refl _) cv.toList 0 HB4.out
  rw [← hcb] at hX5 hB5 ⊢
  have HXK := Lib.hid (show (w4.setCells cb 0 cv.toList).heap[kb]? = some (.cells kv 22 (0, 0)) from (hB5.block kb (by have := HK3.out; omega)).trans HX3.out)
  have HB5 := Lib.hid (HB3.out.trans (hB5.mono (hcb ▸ HB3.out.size)))
  have HCB := Lib.hid (show w.heap.size ≤ cb from hcb ▸ HB3.out.size)
  have HNE := Lib.hid (show kb ≠ cb from by have := HK3.out; omega)
  clear hB5 HX4 HB4 HS4 HB3 HX3 HK3 hcb HCZ HST
  generalize w4.setCells cb 0 cv.toList = w5 at *
  have c17 := cells_of_row hX5 17 _ (HV.out.at_ 17 (by decide))
  have c16 := cells_of_row hX5 16 _ (HV.out.at_ 16 (by decide))
  have c19 := cells_of_row hX5 19 _ (HV.out.at_ 19 (by decide))
  have c15 := cells_of_row hX5 15 _ (HV.out.at_ 15 (by decide))
  have c1 := cells_of_row hX5 1 _ (HV.out.at_ 1 (by decide))
  have f17 := frozen_of_row _ _ 17 _ _ hX5
  have f16 := frozen_of_row _ _ 16 _ _ hX5
  have f19 := frozen_of_row _ _ 19 _ _ hX5
  have f15 := frozen_of_row _ _ 15 _ _ hX5
  have f1 := frozen_of_row _ _ 1 _ _ hX5
  have hX6 := heap_setCell_same _ _ 1 _ _ (.int .i64 9) (heap_setCell_same _ _ 15 _ _ (.int .i64 1) (heap_setCell_same _ _ 19 _ _ (.int .i64 1048576) (heap_setCell_same _ _ 16 _ _ (.int .i64 1) (heap_setCell_same _ _ 17 _ _ (.int .i64 T) hX5))))
  have hB6 := ((((HB5.out.setCell (p := ⟨cb, 17, none⟩) HCB.out (.int .i64 T)).setCell (p := ⟨cb, 16, none⟩) HCB.out (.int .i64 1)).setCell (p := ⟨cb, 19, none⟩) HCB.out (.int .i64 1048576)).setCell (p := ⟨cb, 15, none⟩) HCB.out (.int .i64 1)).setCell (p := ⟨cb, 1, none⟩) HCB.out (.int .i64 9)
  have hkk : ∀ (x : World) (i : Nat) (v : Value), x.heap[kb]? = some (.cells kv 22 (0, 0)) → (x.setCell ⟨cb, i, none⟩ v).heap[kb]? = some (.cells kv 22 (0, 0)) := fun x i v h => (heap_setCell_other _ _ _ _ HNE.out).trans h
  have hKA := hkk _ 1 (.int .i64 9) (hkk _ 15 (.int .i64 1) (hkk _ 19 (.int .i64 1048576) (hkk _ 16 (.int .i64 1) (hkk _ 17 (.int .i64 T) HXK.out))))
  have HX6 := Lib.hid hX6
  have HB6 := Lib.hid hB6
  have HK6 := Lib.hid hKA
  have HV6 := Lib.hid (HC.out T)
  clear hX6 hB6 hkk hKA hX5 HC
  go_upto_region 5 with (fail)
  generalize (((((w5.setCell ⟨cb, 17, none⟩ (.int .i64 T)).setCell ⟨cb, 16, none⟩ (.int .i64 1)).setCell ⟨cb, 19, none⟩ (.int .i64 1048576)).setCell ⟨cb, 15, none⟩ (.int .i64 1)).setCell ⟨cb, 1, none⟩ (.int .i64 9)) = w6 at *
  generalize (((((cv.setIfInBounds 17 (Value.int .i64 T)).setIfInBounds 16 (.int .i64 1)).setIfInBounds 19 (.int .i64 1048576)).setIfInBounds 15 (.int .i64 1)).setIfInBounds 1 (.int .i64 9)) = cv at *
  clear c17 c16 c19 c15 c1 f17 f16 f19 f15 f1 HXK HB5 HV HCF HC20
  have hl1 := box_load (t := 26) HX6.out _ Tryz.underlying26 rfl (by rw [HV6.out.size]; exact cfg_size)
  have hl2 := keys_load HKS.out HK6.out
  have HLT := Lib.hid (show cb < w6.heap.size from (Array.getElem?_eq_some_iff.1 HX6.out).1)
  go_wp2_with (first | ((with_reducible refine arm_load 27 9 26 (.pointer (some ⟨cb, 0, none⟩)) (.agg cv) hl1 ?_ ?_); rfl) | ((with_reducible refine arm_load 28 4 22 (.pointer (some ⟨kb, 0, none⟩)) (.agg kv) hl2 ?_ ?_); rfl))
  refine (ends_begin cv kv T 0 _ HV6.out HT0.out HKS.out).mono ?_
  rintro e w7 ⟨eb, G, rfl, hE, hB7⟩
  obtain ⟨H, hH⟩ : ∃ H, H = w6.heap.size := ⟨_, rfl⟩
  rw [← hH] at hE
  have HX7 := Lib.hid (keep_block hB7 HX6.out)
  have HB7 := Lib.hid (HB6.out.trans (hB7.mono HB6.out.size))
  have HLO := Lib.hid (show w.heap.size ≤ H from hH ▸ HB6.out.size)
  have HHI := Lib.hid (show H ≤ w7.heap.size from hH ▸ hB7.size)
  have HCH := Lib.hid (show cb < H from hH ▸ HLT.out)
  have HE := Lib.hid (hE n0 HN0.out.1)
  have C17 : Hid (∀ w' : World, Kp (fun k => k < H) w7 w' → w'.cell? ⟨cb, 17, none⟩ = some (.int .i64 T)) := Lib.hid fun w' q => cells_of_row (q.keep HX7.out HCH.out) 17 _ (HV6.out.at_ 17 (by decide))
  clear hE hB7 hl1 hl2 HX6 HB6 HK6 hH HLT htt hT hw1 HX7 HV6 HCB HNE HKB
  obtain ⟨F, hF⟩ : ∃ F : PCf, F = ⟨cv, endC T, kv, G⟩ := ⟨_, rfl⟩
  go_wp2_with fail
  go_loopw [12, 13, 35] (fun s _ t wr => ∃ (r : Nat) (now tc : Int), r ≤ 2 ∧ t = .int .i64 (r : Nat) ∧ s = .int .i64 now ∧ 0 ≤ tc ∧ tc ≤ now ∧ now ≤ 1099511627776 + 1099511627776 * (r : Int) ∧ EngP (fun k => k < H) eb ⟨cv, endC T, kv, G⟩ tc (RdS now r) wr ∧ Kp (fun k => k < H) w7 wr) (fun _ _ t _ => (2 - intOf t).toNat)
  case atStart => exact ⟨0, n0, 0, by omega, rfl, rfl, by omega, HN0.out.1, by have := HN0.out; omega, HE.out, Kp.refl _ _⟩
  case round =>
    obtain ⟨r, now, tc, hr, rfl, rfl, htc, htn, hnow, hEr, hKr⟩ := hrel
    have hc := C17.out _ hKr
    have HK := Lib.hid hKr
    have HER := Lib.hid hEr
    clear hKr hEr HE
    by_cases hr2 : r = 2
    · subst hr2
      go_wp2
      go_ret
      exact ⟨rfl, HB7.out.trans (HK.out.to_below (fun k hk => Nat.lt_of_lt_of_le hk HLO.out) (Nat.le_trans HLO.out HHI.out))⟩
    · have hr1 : (r : Int) < 2 := by omega
      have hw0 : IntKind.i64.wrap ((r : Int) + 1) = ((r + 1 : Nat) : Int) := by rw [IntWalk.i64_in _ (by omega)]; omega
      have C1 := Lib.hid (engp_clock HER.out now htn (by omega))
      obtain ⟨bt, hbt⟩ : ∃ bt, between.tmod T = bt := ⟨_, rfl⟩
      have hbt0 : 0 ≤ bt ∧ bt < T := by
        have := HBT.out
        have h1 := HT0.out
        rw [Int.tmod_eq_emod_of_nonneg this.1] at hbt
        have h2 := Int.emod_nonneg between (show T ≠ 0 by omega)
        have h3 := Int.emod_lt_of_pos between (show 0 < T by omega)
        omega
      have hT9 := HT0.out
      have hu : IntKind.u64.wrap T = T := IntWalk.u64_in _ (by omega)
      have hw1 : IntKind.i64.wrap bt = bt := IntWalk.i64_in _ (by omega)
      have hw4 : IntKind.i64.wrap (now + bt) = now + bt := IntWalk.i64_in _ (by omega)
      have hw5 : IntKind.i64.wrap (now + T) = now + T := IntWalk.i64_in _ (by omega)
      have hw6 : IntKind.i64.wrap (now + T - 1) = now + T - 1 := IntWalk.i64_in _ (by omega)
      have hTne : T ≠ 0 := by omega
      have hadd : addC now T = now + T := addC_in (by omega) (by omega) (by omega)
      have HN := Lib.hid (show 0 ≤ now ∧ now ≤ 2199023255552 ∧ r ≤ 1 from ⟨by omega, by omega, by omega⟩)
      have HBT0 := Lib.hid hbt0
      have HADD := Lib.hid hadd
      have HNX := Lib.hid (show now + T ≤ 1099511627776 + 1099511627776 * ((r + 1 : Nat) : Int) by omega)
      clear hbt0 hT9 hadd hnow htc htn hr
      go_wp2_with fail
      refine C1.out.mono ?_
      rintro e w8 ⟨rfl, hE8, hK8⟩
      have HE8 := Lib.hid hE8
      have HK8 := Lib.hid (HK.out.trans hK8)
      clear hE8 hK8 C1 HER HK hc
      go_wp2_with fail
      refine (packet_5 _).mono ?_
      rintro e w9 ⟨g, c, rfl, hf, hB9, hge⟩
      have HE9 := Lib.hid (HE8.out.mine hB9 hge hf.blk)
      have HK9 := Lib.hid (HK8.out.trans (Kp.of_below hB9))
      have hdb := HDB.out w9
      have C2 := Lib.hid (ends_frame HE9.out g c hf (.inr rfl) HN.out.2.2 ⟨HN.out.1, HN.out.2.1⟩ HT0.out dz HDS.out)
      clear hf hB9 hge HE8 HK8
      go_wp2_with ((with_reducible refine arm_build 43 41 _ #[] _ hdb ?_ ?_); (first | rfl | simp [Act.eval]))
      refine C2.out.mono ?_
      rintro e w10 ⟨rfl, hE10, hK10⟩
      have HE10 := Lib.hid (hE10.sub (Z := fun k => k < H) (fun k hk => .inl hk))
      have HK10 := Lib.hid (HK9.out.trans (hK10.sub (fun k hk => .inl hk)))
      clear hE10 hK10 C2 HE9 HK9 hdb
      go_upto_region 12 with (fail)
      have hv0 := Go.heap_alloc_new w10 (.cells #[.int .i64 (r : Nat), .int .i64 0, .int .i64 2, .int .i64 (-1), .bool true, .bool false] 35)
      have hB11 : Below w10.heap.size w10 (w10.alloc (.cells #[.int .i64 (r : Nat), .int .i64 0, .int .i64 2, .int .i64 (-1), .bool true, .bool false] 35)) := (Below.refl _ _).alloc (Nat.le_refl _) _
      generalize w10.alloc (.cells #[.int .i64 (r : Nat), .int .i64 0, .int .i64 2, .int .i64 (-1), .bool true, .bool false] 35) = w11 at *
      generalize w10.heap.size = vb at hv0 ⊢
      have v4 := cells_of_row hv0 4 _ rfl
      have v2 := cells_of_row hv0 2 _ rfl
      have HK11 := Lib.hid (HK10.out.trans (Kp.of_below hB11))
      have hc := C17.out _ HK11.out
      have C3 := Lib.hid (engp_clock (HE10.out.below hB11) (now + bt) (by have := HBT0.out; omega) (by have := HBT0.out; have := HN.out; have := HT0.out; omega))
      clear hB11 hv0 HE10 HK10
      go_wp2_with fail
      refine C3.out.mono ?_
      rintro e w12 ⟨rfl, hE12, hK12⟩
      have HK12 := Lib.hid (HK11.out.trans hK12)
      have C4 := Lib.hid (ends_in hE12 ⟨HN.out.1, by have := HBT0.out; omega⟩ (by rw [HADD.out]; have := HBT0.out; omega))
      clear hc hK12 hE12 C3 HK11 v4 v2
      go_wp2_with fail
      refine C4.out.mono ?_
      rintro e w13 ⟨⟨B1, k1, rfl⟩, hE13, hK13⟩
      have HK13 := Lib.hid (HK12.out.trans hK13)
      have hc := C17.out _ HK13.out
      have C5 := Lib.hid (engp_clock hE13 (now + T - 1) (by have := HBT0.out; omega) (by have := HN.out; have := HT0.out; omega))
      clear hK13 hE13 C4 HK12
      go_wp2_with fail
      refine C5.out.mono ?_
      rintro e w14 ⟨rfl, hE14, hK14⟩
      have HK14 := Lib.hid (HK13.out.trans hK14)
      have C6 := Lib.hid (ends_in hE14 ⟨HN.out.1, by have := HT0.out; omega⟩ (by rw [HADD.out]; omega))
      clear hc hK14 hE14 C5 HK13
      go_wp2_with fail
      refine C6.out.mono ?_
      rintro e w15 ⟨⟨B2, k2, rfl⟩, hE15, hK15⟩
      have HK15 := Lib.hid (HK14.out.trans hK15)
      have hc := C17.out _ HK15.out
      have C7 := Lib.hid (engp_clock hE15 (now + T) (by omega) (by have := HN.out; have := HT0.out; omega))
      clear hK15 hE15 C6 HK14
      go_wp2_with fail
      refine C7.out.mono ?_
      rintro e w16 ⟨rfl, hE16, hK16⟩
      have HK16 := Lib.hid (HK15.out.trans hK16)
      have C8 := Lib.hid (ends_out hE16 ⟨HN.out.1, by have := HT0.out; omega⟩ (by rw [HADD.out]; exact Int.le_refl _))
      clear hc hK16 hE16 C7 HK15
      go_wp2_with fail
      refine C8.out.mono ?_
      rintro e w17 ⟨⟨B3, k3, rfl⟩, hE17, hK17⟩
      have HK17 := Lib.hid (HK16.out.trans hK17)
      have HE17 := Lib.hid hE17
      clear hK17 hE17 C8 HK16
      go_wp2_with fail
      refine ⟨⟨r + 1, now + T, now + T, by have := HN.out; omega, rfl, rfl, by have := HN.out; have := HT0.out; omega, Int.le_refl _, HNX.out, HE17.out, HK17.out⟩, ?_⟩
      simp only [intOf]
      omega
end Go.Proofs.YtpanmfdbdgecaaaGreat.C

namespace Go.Proofs.YtpanmfdbdgecaaaGreat.C
open Go.RowKit
set_option linter.unusedVariables false
theorem packet_3 (n : Nat) (w : World) (h0 : 42 ≤ n) (h1 : n ≤ 9216) : Calls Tryz.prog 12 #[.int .u8 3, .int .i64 (n : Nat)] w fun e w' => ∃ g c, e = .returned (.slice (some ⟨g, 0, none⟩) n c) ∧ FrAt w' g 0 n c (pbB 3 (n - 14)) ∧ Below w.heap.size w w' ∧ w.heap.size ≤ g := by
  have := packet_made 3 (n - 14) w (by decide) (by omega) (by omega)
  rw [show n - 14 + 14 = n by omega] at this
  exact this
theorem pkt_3 (n : Nat) (h0 : 42 ≤ n) (h1 : n ≤ 9216) : UdpB (pbB 3 (n - 14)) n ∧ PkP (pktB (pbB 3 (n - 14)) n) (n : Nat) (pfx 10 1 3) := by
  have h := pb_udp (nn := 3) (all := n - 14) (by decide) (by omega) (by omega)
  have g := pb_pkt 3 (n - 14)
  rw [show n - 14 + 14 = n by omega] at h g
  exact ⟨h, by rw [g]; exact pktX_pre 10 1 3 7 9 0 0 0 1000 53 n⟩
theorem Kp.fresh {Z : Nat → Prop} {a b : World} (p : Kp Z a b) {x : Nat} (hx : a.heap.size ≤ x) (cs : List Value) (o : Nat) : Kp Z a (b.setCells x o cs) := by
  have q := Two.setCells (g := x) (h := x) (.inl rfl) cs o (Two.refl x x b)
  exact ⟨q.os.trans p.os, q.tape.trans p.tape, q.output.trans p.output, Nat.le_trans p.size q.size, fun k hk hz => (q.block k (Nat.lt_of_lt_of_le hk p.size) (by omega) (by omega)).trans (p.block k hk hz)⟩
set_option maxRecDepth 100000 in
set_option maxHeartbeats 8000000 in
theorem tokens_main (cv kv : Array Value) (c : Nat → Int) (a2 : Option Addr) (K2 : List Int) (c2 : Nat) (a3 : Option Addr) (K3 : List Int) (c3 : Nat) (w : World) (hv : Cfg cv c) (hk : kv.size = 16) (h1 : kv.all (·.oneCell') = true) (hn2 : K2.length ≤ 40) (hle : K2.length ≤ K3.length) (hp : c 1 ≤ 50) (hrt : c 18 ≤ 1048576) (hN2 : Nums .u16 w a2 K2) (hN3 : Nums .u16 w a3 K3) :
    Calls Tryz.prog 7 #[.agg cv, .agg kv, .slice a2 K2.length c2, .slice a3 K3.length c3] w fun e w' => e = .returned (.bool true) ∧ Below w.heap.size w w' := by
  have CA := Lib.hid awake_is
  have HV := Lib.hid hv
  have HV2 := Lib.hid ((hv.set 16 1).set 17 1099511627776)
  have HK := Lib.hid hk
  have HK1 := Lib.hid h1
  have HN2 := Lib.hid hN2
  have HN3 := Lib.hid hN3
  obtain ⟨n2, hl2⟩ : ∃ n, K2.length = n := ⟨_, rfl⟩
  obtain ⟨n3, hl3⟩ : ∃ n, K3.length = n := ⟨_, rfl⟩
  have HL2 := Lib.hid hl2
  have HL3 := Lib.hid hl3
  rw [hl2] at hn2 hle ⊢
  rw [hl3] at hle ⊢
  have d0 : decide (40 < n2) = false := decide_eq_false (by omega)
  have d1 : decide (n3 < n2) = false := decide_eq_false (by omega)
  have e0 : (n2 : Int) ≤ 40 := by omega
  have e1 : (n2 : Int) ≤ (n3 : Int) := by omega
  have HNN := Lib.hid (And.intro hn2 hle)
  have HPR := Lib.hid (And.intro hp hrt)
  obtain ⟨dz, hdz⟩ : ∃ z, DZ = z := ⟨_, rfl⟩
  have hdb := build_dz
  have hds : dz.size = 2 := by rw [← hdz]; rfl
  rw [hdz] at hdb
  have HDB := Lib.hid hdb
  have HDS := Lib.hid hds
  have hzw := zrw
  have hzws := zrw_ok.size
  have hws : (Tryz.prog.info? 109).map (·.size) = some 120 := by kernel_rfl
  generalize zc 109 = ZW at *
  have HZW := Lib.hid hzw
  have HZWS := Lib.hid hzws
  have HWS := Lib.hid hws
  clear hv hk h1 hN2 hN3 hl2 hl3 hdz hdb hds hzw hzws hws
  go_enter Tryz.func7, Tryz.ntmps7
  go_upto_region 1 with (first | ((with_reducible refine arm_box 4 0 26 cv rfl ?_); intro w1 HB1 HX1 HS1) | ((with_reducible refine arm_box 5 1 22 kv rfl ?_); intro w2 HB2 HX2 HS2))
  have B2 := Lib.hid (HB1.out.trans (HB2.out.mono HB1.out.size))
  have X2 := Lib.hid (keep_block HB2.out HX1.out)
  have Y2 := Lib.hid HX2.out
  have HKB := Lib.hid (show w.heap.size < w1.heap.size ∧ w1.heap.size < w2.heap.size from ⟨(Array.getElem?_eq_some_iff.1 HX1.out).1, (Array.getElem?_eq_some_iff.1 HX2.out).1⟩)
  obtain ⟨kb, hkb⟩ : ∃ k, k = w1.heap.size := ⟨_, rfl⟩
  obtain ⟨cb, hcb⟩ : ∃ k, k = w.heap.size := ⟨_, rfl⟩
  rw [← hkb] at Y2 HKB ⊢
  rw [← hcb] at X2 HKB ⊢
  have HCB := Lib.hid hcb
  clear HB1 HX1 HS1 HB2 HX2 HS2 hkb hcb
  go_wp2_with fail
  refine (CA.out _).mono ?_
  rintro e w3 ⟨rfl, hB3⟩
  have B3 := Lib.hid (B2.out.trans (hB3.mono B2.out.size))
  have hX3 := keep_block hB3 X2.out
  have Y3 := Lib.hid (keep_block hB3 Y2.out)
  have k1 := HV.out.cell hX3 1 (by decide)
  have k18 := HV.out.cell hX3 18 (by decide)
  have k16 := HV.out.cell hX3 16 (by decide)
  have k17 := HV.out.cell hX3 17 (by decide)
  have f16 := frozen_of_row _ _ 16 _ _ hX3
  have f17 := frozen_of_row _ _ 17 _ _ hX3
  have hX4 := heap_setCell_same _ _ 17 _ _ (.int .i64 1099511627776) (heap_setCell_same _ _ 16 _ _ (.int .i64 1) hX3)
  have hY4 : ((w3.setCell ⟨cb, 16, none⟩ (.int .i64 1)).setCell ⟨cb, 17, none⟩ (.int .i64 1099511627776)).heap[kb]? = some (.cells kv 22 (0, 0)) := (heap_setCell_other _ _ _ _ (by have := HKB.out; simp; omega)).trans ((heap_setCell_other _ _ _ _ (by have := HKB.out; simp; omega)).trans Y3.out)
  have hB4 := (B3.out.setCell (p := ⟨cb, 16, none⟩) (Nat.le_of_eq HCB.out.symm) (.int .i64 1)).setCell (p := ⟨cb, 17, none⟩) (Nat.le_of_eq HCB.out.symm) (.int .i64 1099511627776)
  clear hB3 X2 Y2 B2 Y3
  have hX3' := hX3
  clear hX3
  go_upto_region 4 with (fail)
  generalize (w3.setCell ⟨cb, 16, none⟩ (.int .i64 1)).setCell ⟨cb, 17, none⟩ (.int .i64 1099511627776) = w4 at *
  clear k1 k18 k16 k17 f16 f17 B3 hX3'
  have X4 := Lib.hid hX4
  have Y4 := Lib.hid hY4
  have B4 := Lib.hid hB4
  clear hX4 hY4 hB4
  generalize hcv : (cv.setIfInBounds 16 (Value.int .i64 1)).setIfInBounds 17 (Value.int .i64 1099511627776) = cw at *
  obtain ⟨d, hd⟩ : ∃ d : Nat → Int, d = (fun k => if k = 17 then 1099511627776 else (fun k => if k = 16 then 1 else c k) k) := ⟨_, rfl⟩
  rw [← hd] at HV2
  have HD := Lib.hid hd
  clear hd hcv
  have hl1 := cfg_load X4.out HV2.out
  have hl2 := keys_load HK.out Y4.out
  by_cases hR : RightC d
  · have CS := Lib.hid (fun w' => start_yes cw kv d w' HV2.out HK.out HK1.out hR (by rw [HD.out]; exact HPR.out.1))
    have HR := Lib.hid hR
    clear hR
    go_wp2_with (first | ((with_reducible refine arm_load 44 4 26 (.pointer (some ⟨cb, 0, none⟩)) (.agg cw) hl1 ?_ ?_); rfl) | ((with_reducible refine arm_load 45 5 22 (.pointer (some ⟨kb, 0, none⟩)) (.agg kv) hl2 ?_ ?_); rfl))
    refine (CS.out _).mono ?_
    rintro e w5 ⟨X, eb, G, rfl, hX, hX0, hE, hB5⟩
    have HX := Lib.hid hX
    have HX0 := Lib.hid hX0
    have HE5 := Lib.hid hE
    have X5 := Lib.hid (keep_block hB5 X4.out)
    have B5 := Lib.hid (B4.out.trans (hB5.mono B4.out.size))
    have HSX := Lib.hid (show (Tryz.prog.info? 109).map (·.size) = some X.size by rw [hX.size]; exact HWS.out)
    have HH0 := Lib.hid (And.intro B4.out.size (And.intro (Array.getElem?_eq_some_iff.1 X4.out).1 hB5.size))
    clear hX hX0 hE hB5 B4 X4 Y4 hl1 hl2 CS
    generalize w4.heap.size = H0 at *
    go_upto_region 5 with (first
      | ((with_reducible refine arm_alloc 9 109 ZW 120 HZW.out ?_); intro w6 HB HXX HS; have hst := box_store (t := 109) (x := X) HXX.out HSX.out HX.out.one (HZWS.out.trans HX.out.size.symm))
      | ((with_reducible refine arm_store 9 47 109 _ _ _ hst ?_ ?_ ?_); rfl; rfl))
    have hX6 := box_whole HXX.out (cs := X) (HX.out.size.trans HZWS.out.symm)
    have hB6 := below_setCells (b := w5.heap.size) (Nat.le_refl _) X.toList 0 HB.out
    have hE7 := HE5.out.mine hB6 (x := w5.heap.size) (Nat.le_refl _) (Array.getElem?_eq_some_iff.1 hX6).1
    clear hst HB HXX HS
    generalize w6.setCells w5.heap.size 0 X.toList = w7 at *
    have B7 := Lib.hid (B5.out.trans (hB6.mono B5.out.size))
    have X7 := Lib.hid (keep_block hB6 X5.out)
    have HWX := Lib.hid (Nat.lt_of_le_of_lt HH0.out.2.2 (Array.getElem?_eq_some_iff.1 hX6).1)
    obtain ⟨xb, hxb⟩ : ∃ x, x = w5.heap.size := ⟨_, rfl⟩
    rw [← hxb] at hX6 hE7 ⊢
    have W7 := Lib.hid hX6
    have HE7 := Lib.hid hE7
    have HXB := Lib.hid (show H0 ≤ xb from hxb ▸ HH0.out.2.2)
    clear hX6 hB6 hE7 HE5 B5 X5 hxb
    obtain ⟨Z, hZ⟩ : ∃ Z : Nat → Prop, Z = fun k => k < H0 ∨ k = xb := ⟨_, rfl⟩
    rw [← hZ] at HE7
    have HZL : Hid (∀ k, k < H0 → Z k) := Lib.hid fun k hk => by rw [hZ]; exact .inl hk
    have HZX : Hid (Z xb) := Lib.hid (by rw [hZ]; exact .inr rfl)
    clear hZ
    have hd16 : d 16 = 1 := by rw [HD.out]; rfl
    have hd17 : d 17 = 1099511627776 := by rw [HD.out]; rfl
    have hd18 : 0 ≤ d 18 ∧ d 18 ≤ 1048576 := ⟨HR.out.rate.1, by rw [HD.out]; exact HPR.out.2⟩
    have hd19 := HR.out.burst
    have hd0 := HR.out.buckets
    have hd15 := HR.out.window.1
    have CELL : Hid (∀ w', Kp Z w7 w' → (w'.cell? ⟨xb, 0, none⟩ = some (.pointer (some ⟨eb, 0, none⟩)) ∧ w'.cell? ⟨cb, 0, none⟩ = some (.int .i64 (d 0)) ∧ w'.cell? ⟨cb, 18, none⟩ = some (.int .i64 (d 18)) ∧ w'.cell? ⟨cb, 19, none⟩ = some (.int .i64 (d 19))) ∧ ∀ b, b < w.heap.size → w'.heap[b]? = w.heap[b]?) := Lib.hid fun w' q => by
      have hc := q.keep X7.out (HZL.out _ HH0.out.2.1)
      exact ⟨⟨cells_of_row (q.keep W7.out HZX.out) 0 _ HX0.out, HV2.out.cell hc 0 (by decide), HV2.out.cell hc 18 (by decide), HV2.out.cell hc 19 (by decide)⟩, fun b hb => (q.block b (Nat.lt_of_lt_of_le hb B7.out.size) (HZL.out b (Nat.lt_of_lt_of_le hb HH0.out.1))).trans (B7.out.block b hb)⟩
    have HFF := Lib.hid (And.intro hd16 (And.intro hd17 (And.intro hd18 (And.intro hd19 (And.intro hd0 hd15)))))
    have TKP := Lib.hid (fun (w1 : World) (q : Kp Z w7 w1) => B7.out.trans (q.to_below (m := w.heap.size) (fun k hk => HZL.out k (Nat.lt_of_lt_of_le hk HH0.out.1)) B7.out.size))
    clear hd16 hd17 hd18 hd19 hd0 hd15 X7 W7 HV2 HV HD HR HX HX0 HWX HPR HZW HZWS HSX HWS
    have hd0 := HFF.out.2.2.2.2.1
    have hwb : IntKind.i64.wrap (2 * d 0) = 2 * d 0 := IntWalk.i64_in _ (by omega)
    clear hd0
    generalize hF : (⟨cw, d, kv, G⟩ : PCf) = F at *
    have hFc : F.c = d := by rw [← hF]
    have HFC := Lib.hid hFc
    clear hF hFc
    generalize hbk : d 0 = bk at *
    generalize hrate : d 18 = rate at *
    generalize hbst : d 19 = bst at *
    have HBK := Lib.hid (And.intro hbk (And.intro hrate hbst))
    clear hbk hrate hbst
    obtain ⟨VZ0, hVZ⟩ : ∃ z, VZ = z := ⟨_, rfl⟩
    have hvz := vz_zero
    rw [hVZ] at hvz
    have hvzs : VZ0.size = 6 := by rw [← hVZ]; rfl
    have HVZ := Lib.hid hvz
    have HVZS := Lib.hid hvzs
    clear hvz hVZ hvzs
    go_wp2_with fail
    go_loopw [11, 12, 53] (fun s11 s12 t wr => ∃ (k : Nat) (now taken tc : Int), k ≤ n2 ∧ t = .int .i64 (k : Nat) ∧ s11 = .int .i64 now ∧ s12 = .int .i64 taken ∧ 0 ≤ now ∧ now ≤ 65535 * (k : Int) ∧ 0 ≤ taken ∧ taken ≤ 10000 * (k : Int) ∧ EngN Z eb F now (TK F now k taken) wr ∧ Kp Z w7 wr) (fun _ _ t _ => (n2 - intOf t).toNat)
    case atStart => exact ⟨0, 0, 0, 0, by omega, rfl, rfl, rfl, by omega, by omega, by omega, by omega, HE7.out, Kp.refl _ _⟩
    case round =>
      obtain ⟨k, now, taken, _, hk, rfl, rfl, rfl, hnow0, hnow1, htk0, htk1, hEr, hKr⟩ := hrel
      have HER := Lib.hid hEr
      have HKR := Lib.hid hKr
      clear hEr hKr HE7
      by_cases hkn : k = n2
      · subst hkn
        go_wp2
        go_ret
        exact ⟨rfl, TKP.out _ HKR.out⟩
      · have hlt : (k : Int) < (n2 : Int) := by omega
        have hnn := HNN.out
        have hw0 : IntKind.i64.wrap ((k : Int) + 1) = ((k + 1 : Nat) : Int) := by rw [IntWalk.i64_in _ (by omega)]; omega
        obtain ⟨lk, hlk⟩ : ∃ v, K2[k]? = some v := ⟨_, List.getElem?_eq_getElem (by have := HL2.out; omega)⟩
        obtain ⟨wk, hwk⟩ : ∃ v, K3[k]? = some v := ⟨_, List.getElem?_eq_getElem (by have := HL3.out; omega)⟩
        obtain ⟨x2, ha2, hc2, hf2⟩ := HN2.out.kept (CELL.out _ HKR.out).2 hlk
        obtain ⟨x3, ha3, hc3, hf3⟩ := HN3.out.kept (CELL.out _ HKR.out).2 hwk
        obtain ⟨l0, l1⟩ := bounds_u16 hf2
        obtain ⟨w0', w1'⟩ := bounds_u16 hf3
        obtain ⟨n, hn⟩ : ∃ n : Nat, 42 + lk.tmod 9000 = (n : Int) := by
          rw [Int.tmod_eq_emod_of_nonneg l0]
          exact ⟨(42 + lk % 9000).toNat, by omega⟩
        have hn42 : 42 ≤ n ∧ n ≤ 9216 := by
          rw [Int.tmod_eq_emod_of_nonneg l0] at hn
          omega
        obtain ⟨m9, hm9⟩ : ∃ m9, lk.tmod 9000 = m9 := ⟨_, rfl⟩
        rw [hm9] at hn
        have hmw : IntKind.i64.wrap m9 = m9 := IntWalk.i64_in _ (by omega)
        have hnw0 : IntKind.i64.wrap (n : Int) = (n : Int) := IntWalk.i64_in _ (by omega)
        have hlw : IntKind.i64.wrap lk = lk := IntWalk.i64_in _ (by omega)
        have hww : IntKind.i64.wrap wk = wk := IntWalk.i64_in _ (by omega)
        obtain ⟨nw, hnw⟩ : ∃ nw, now + wk = nw := ⟨_, rfl⟩
        have hnwr : IntKind.i64.wrap nw = nw := IntWalk.i64_in _ (by omega)
        have HNW := Lib.hid (show now ≤ nw ∧ 0 ≤ nw ∧ nw ≤ 65535 * ((k + 1 : Nat) : Int) ∧ nw < 1099511627776 from ⟨by omega, by omega, by omega, by omega⟩)
        have hkxb := (CELL.out _ HKR.out).1.1
        have C1 := Lib.hid (engn_clock HER.out nw (by omega) (by omega))
        have HKK := Lib.hid (show k < n2 ∧ n2 ≤ 40 from ⟨by omega, by omega⟩)
        have HTK := Lib.hid (And.intro htk0 htk1)
        have HN42 := Lib.hid hn42
        have HC2 : Hid (∀ w', Kp Z w7 w' → w'.cell? (x2.add k) = some (.int .u16 lk)) := Lib.hid fun w' q => by
          obtain ⟨x, hx, hc, _⟩ := HN2.out.kept (CELL.out _ q).2 hlk
          rw [ha2] at hx
          injection hx with hx
          rw [hx]
          exact hc
        subst ha2
        subst ha3
        clear hn42 hf2 hf3 hlk hwk hnn l0 l1 w0' w1' hnow0 hnow1 htk0 htk1 hc2 HER
        go_wp2_with fail
        refine C1.out.mono ?_
        rintro e w8 ⟨rfl, hE8, hK8⟩
        have HE8 := Lib.hid (hE8.imp fun S q => TK.later q (by rw [HFC.out]; exact HFF.out.2.2.2.2.2) HNW.out.1 HNW.out.2.2.2)
        have HK8 := Lib.hid (HKR.out.trans hK8)
        clear hE8 hK8 C1 hkxb hc3
        have hc2 := HC2.out _ HK8.out
        go_upto_region 15 with (fail)
        clear hc2
        obtain ⟨hu3, hp3⟩ := pkt_3 n HN42.out.1 HN42.out.2
        have CPK := Lib.hid (fun w' => packet_3 n w' HN42.out.1 HN42.out.2)
        obtain ⟨kb0, hkb0⟩ : ∃ b, decide (k = 0) = b := ⟨_, rfl⟩
        have CFR : Hid (∀ (Y : Nat → Prop) (w1 : World) (g cc : Nat), EngN Y eb F nw (TK F nw k taken) w1 → FrAt w1 g 0 n cc (pbB 3 (n - 14)) → Y g → Calls Tryz.prog 11 #[.pointer (some ⟨eb, 0, none⟩), .slice (some ⟨g, 0, none⟩) n cc, .agg dz] w1 fun e w' => ∃ r cl : Int, ((r = 0 ∧ cl = 2 * bk) ∨ ((r = 8 ∨ r = 9) ∧ cl = -1)) ∧ e = .returned (.agg #[.int .i64 (k : Nat), .int .i64 r, .int .i64 cl, .int .i64 (-1), .bool kb0, .bool false]) ∧ EngN Y eb F nw (TM F nw k (taken + if r = 0 then (n : Int) else 0)) w' ∧ Kp Y w1 w') := Lib.hid fun Y w1 g cc q hf hg => by
          have := tok_frame q g cc n _ hf hg hu3 hp3 ⟨by have := HN42.out; omega, by have := HN42.out; omega⟩ (by have := HKK.out; omega) (by rw [HFC.out]; exact HFF.out.1) (by rw [HFC.out]; exact HFF.out.2.1) ⟨HNW.out.2.1, HNW.out.2.2.2⟩ dz HDS.out
          rw [HFC.out, HBK.out.1, hkb0] at this
          refine this.mono ?_
          rintro e w' ⟨r, hr, he, h1, h2⟩
          refine ⟨r, if r = 0 then 2 * bk else -1, ?_, he, h1, h2⟩
          rcases hr with hr | hr | hr
          · exact .inl ⟨hr, if_pos hr⟩
          · exact .inr ⟨.inl hr, if_neg (by omega)⟩
          · exact .inr ⟨.inr hr, if_neg (by omega)⟩
        have HKB0 := Lib.hid hkb0
        clear hkb0
        clear hu3 hp3
        have HL8 : Hid (∀ w', Kp Z w8 w' → w'.cell? ⟨xb, 0, none⟩ = some (.pointer (some ⟨eb, 0, none⟩))) := Lib.hid fun w' q => (CELL.out _ (HK8.out.trans q)).1.1
        have hvt : (Tryz.prog.info? 35).map (·.size) = some 6 := by kernel_rfl
        refine wp_region_held_drew (S := Kp Z w8) (by kernel_rfl) (Kp.of_below (Below.refl _ _).drew) (fun hHeld => ?_)
        refine wpAnyH_take (i := 0) (oi := ⟨some 75, _, _, _, _, _⟩) (v := ?_) rfl (by kernel_rfl) (by kernel_rfl) (by kernel_rfl) (fun _ _ _ h => h) (Or.inl ⟨by rfl, ?_⟩) hHeld ?_
        rotate_left
        · intro w hSw
          go_simp
          try with_reducible rfl
        try simp only [Act.put, List.setIfInBounds_toArray, List.set_cons_zero, List.set_cons_succ]
        refine wpAnyH_take (i := 1) (oi := ⟨some 76, _, _, _, _, _⟩) (v := ?_) rfl (by kernel_rfl) (by kernel_rfl) (by kernel_rfl) (fun _ _ _ h => h) (Or.inl ⟨by rfl, ?_⟩) hHeld ?_
        rotate_left
        · intro w hSw
          obtain k0 := HL8.out w hSw
          go_simp
          try with_reducible rfl
        try simp only [Act.put, List.setIfInBounds_toArray, List.set_cons_zero, List.set_cons_succ]
        refine wpAnyH_take (i := 2) (oi := ⟨some 77, _, _, _, _, _⟩) (v := ?_) rfl (by kernel_rfl) (by kernel_rfl) (by kernel_rfl) (fun _ _ _ h => h) (Or.inl ⟨by rfl, ?_⟩) hHeld ?_
        rotate_left
        · intro w hSw
          go_simp
          try with_reducible rfl
        try simp only [Act.put, List.setIfInBounds_toArray, List.set_cons_zero, List.set_cons_succ]
        refine wpAnyH_take (i := 4) (oi := ⟨some 79, _, _, _, _, _⟩) (v := .agg dz) rfl (by kernel_rfl) (by kernel_rfl) (by kernel_rfl) (fun _ _ _ h => h) (Or.inl ⟨by rfl, fun w hSw => exec_build (vals := #[]) (by simp [Act.eval]) (HDB.out w)⟩) hHeld ?_
        try simp only [Act.put, List.setIfInBounds_toArray, List.set_cons_zero, List.set_cons_succ]
        refine wpAnyH_ready (rs := [3, 6]) (by kernel_rfl) (by simp) ?_
        refine AllReadyH.cons rfl (fun K hK => ?ordA) (AllReadyH.cons rfl (fun K hK => ?ordB) AllReadyH.nil)
        case' ordA =>
          go_simp
          go_wp2_with (go_at_call 12; go_must (refine (CPK.out _).mono ?_; rintro e w3 ⟨g, cc, rfl, hf, hBp, hge⟩))
          refine hK.out _ _ (hHeld.trans (Kp.of_below hBp)) (fun hHeld => ?_)
          clear hK K
          have hEg := (HE8.out.drew.mine hBp hge hf.blk)
          refine wpAnyH_ready (rs := [5, 6]) (by kernel_rfl) (by simp) ?_
          refine AllReadyH.cons rfl (fun K hK => ?ordA1) (AllReadyH.cons rfl (fun K hK => ?ordA2) AllReadyH.nil)
        case' ordA1 =>
          go_simp
          go_wp2_with (go_at_call 11; go_must (refine (CFR.out _ _ g cc hEg hf (.inr rfl)).mono ?_; rintro e w5 ⟨r, cl, hr, rfl, hE5, hK5⟩))
          refine hK.out _ _ (hHeld.trans (hK5.sub (fun q hq => .inl hq))) (fun hHeld => ?_)
          clear hK K
          have hs5 := hHeld.size
          refine wpAnyH_ready (rs := [6]) (by kernel_rfl) (by simp) ?_
          refine AllReadyH.cons rfl (fun K hK => ?_) AllReadyH.nil
          refine step_alloc 15 35 VZ0 6 HVZ.out ?_; intro W6 HB6 HX6 HS6
          refine hK.out _ _ (hHeld.trans (Kp.of_below HB6.out)) (fun hHeld => ?_)
          clear hK K
          obtain ⟨vb, hvb⟩ : ∃ z, w5.heap.size = z := ⟨_, rfl⟩
          have hEb := (hE5.sub (Z := Z) (fun q hq => .inl hq)).mine HB6.out (x := vb) (Nat.le_of_eq hvb) (by have := HS6.out; omega)
          have hage : w8.heap.size ≤ vb := hvb ▸ hs5
          have hXV := HX6.out
          rw [hvb] at hXV
          rw [hvb]
          have hst := box_store (t := 35) (x := #[.int .i64 (k : Nat), .int .i64 r, .int .i64 cl, .int .i64 (-1), .bool kb0, .bool false]) hXV hvt (by kernel_rfl) HVZS.out
          have HBX := Lib.hid (box_whole (cs := #[.int .i64 (k : Nat), .int .i64 r, .int .i64 cl, .int .i64 (-1), .bool kb0, .bool false]) hXV HVZS.out.symm)
          refine wpAnyH_ready (rs := [7]) (by kernel_rfl) (by simp) ?_
          refine AllReadyH.cons rfl (fun K hK => ?_) AllReadyH.nil
          refine step_store 15 80 35 _ _ _ hst rfl rfl ?_
          refine hK.out _ _ (hHeld.fresh hage _ _) (fun hHeld => ?_)
          clear hK K
          refine wpAnyH_done (by kernel_rfl) ?_ _
        case' ordA2 =>
          refine step_alloc 15 35 VZ0 6 HVZ.out ?_; intro W6 HB6 HX6 HS6
          refine hK.out _ _ (hHeld.trans (Kp.of_below HB6.out)) (fun hHeld => ?_)
          clear hK K
          obtain ⟨vb, hvb⟩ : ∃ z, w3.heap.size = z := ⟨_, rfl⟩
          have hage : w8.heap.size ≤ vb := hvb ▸ (Nat.le_trans (Nat.le_refl _) hBp.size)
          have hEg2 := hEg.mine HB6.out (x := vb) (Nat.le_of_eq hvb) (by have := HS6.out; omega)
          have hf2 := hf.below hf.blk HB6.out (Nat.le_refl _)
          have hXW := HX6.out
          rw [hvb] at hXW
          rw [hvb]
          refine wpAnyH_ready (rs := [5]) (by kernel_rfl) (by simp) ?_
          refine AllReadyH.cons rfl (fun K hK => ?_) AllReadyH.nil
          go_simp
          go_wp2_with (go_at_call 11; go_must (refine (CFR.out _ _ g cc hEg2 hf2 (.inl (.inr rfl))).mono ?_; rintro e w5 ⟨r, cl, hr, rfl, hE5, hK5⟩))
          refine hK.out _ _ (hHeld.trans (hK5.sub (fun q hq => .inl (.inl hq)))) (fun hHeld => ?_)
          clear hK K
          have hXV := hK5.keep hXW (.inr rfl)
          have hEb := hE5.sub (Z := fun q => Z q ∨ q = vb) (fun q hq => hq.elim (fun h => .inl (.inl h)) .inr)
          have hst := box_store (t := 35) (x := #[.int .i64 (k : Nat), .int .i64 r, .int .i64 cl, .int .i64 (-1), .bool kb0, .bool false]) hXV hvt (by kernel_rfl) HVZS.out
          have HBX := Lib.hid (box_whole (cs := #[.int .i64 (k : Nat), .int .i64 r, .int .i64 cl, .int .i64 (-1), .bool kb0, .bool false]) hXV HVZS.out.symm)
          refine wpAnyH_ready (rs := [7]) (by kernel_rfl) (by simp) ?_
          refine AllReadyH.cons rfl (fun K hK => ?_) AllReadyH.nil
          refine step_store 15 80 35 _ _ _ hst rfl rfl ?_
          refine hK.out _ _ (hHeld.fresh hage _ _) (fun hHeld => ?_)
          clear hK K
          refine wpAnyH_done (by kernel_rfl) ?_ _
        case' ordB =>
          refine step_alloc 15 35 VZ0 6 HVZ.out ?_; intro W6 HB6 HX6 HS6
          refine hK.out _ _ (hHeld.trans (Kp.of_below HB6.out)) (fun hHeld => ?_)
          clear hK K
          obtain ⟨vb, hvb⟩ : ∃ z, w8.heap.size = z := ⟨_, rfl⟩
          rw [show w8.drew.heap.size = w8.heap.size from rfl] at HX6 HS6
          have hage : w8.heap.size ≤ vb := Nat.le_of_eq hvb
          have hE6 := HE8.out.drew.mine HB6.out (x := vb) (Nat.le_of_eq hvb) (by have := HS6.out; omega)
          have hXW := HX6.out
          rw [hvb] at hXW
          first | rw [hvb] | rw [show w8.drew.heap.size = vb from hvb]
          refine wpAnyH_ready (rs := [3]) (by kernel_rfl) (by simp) ?_
          refine AllReadyH.cons rfl (fun K hK => ?_) AllReadyH.nil
          go_simp
          go_wp2_with (go_at_call 12; go_must (refine (CPK.out _).mono ?_; rintro e w3 ⟨g, cc, rfl, hf, hBp, hge⟩))
          refine hK.out _ _ (hHeld.trans (Kp.of_below hBp)) (fun hHeld => ?_)
          clear hK K
          have hEg := (hE6.mine hBp hge hf.blk)
          refine wpAnyH_ready (rs := [5]) (by kernel_rfl) (by simp) ?_
          refine AllReadyH.cons rfl (fun K hK => ?_) AllReadyH.nil
          go_simp
          go_wp2_with (go_at_call 11; go_must (refine (CFR.out _ _ g cc hEg hf (.inr rfl)).mono ?_; rintro e w5 ⟨r, cl, hr, rfl, hE5, hK5⟩))
          refine hK.out _ _ (hHeld.trans (hK5.sub (fun q hq => .inl (.inl hq)))) (fun hHeld => ?_)
          clear hK K
          have hXV := hK5.keep (keep_block hBp hXW) (.inl (.inr rfl))
          have hEb := hE5.sub (Z := fun q => Z q ∨ q = vb) (fun q hq => .inl hq)
          have hst := box_store (t := 35) (x := #[.int .i64 (k : Nat), .int .i64 r, .int .i64 cl, .int .i64 (-1), .bool kb0, .bool false]) hXV hvt (by kernel_rfl) HVZS.out
          have HBX := Lib.hid (box_whole (cs := #[.int .i64 (k : Nat), .int .i64 r, .int .i64 cl, .int .i64 (-1), .bool kb0, .bool false]) hXV HVZS.out.symm)
          refine wpAnyH_ready (rs := [7]) (by kernel_rfl) (by simp) ?_
          refine AllReadyH.cons rfl (fun K hK => ?_) AllReadyH.nil
          refine step_store 15 80 35 _ _ _ hst rfl rfl ?_
          refine hK.out _ _ (hHeld.fresh hage _ _) (fun hHeld => ?_)
          clear hK K
          refine wpAnyH_done (by kernel_rfl) ?_ _
        all_goals
          try simp only [Act.put, List.setIfInBounds_toArray, List.set_cons_zero, List.set_cons_succ]
          have HE9 := Lib.hid ((hEb.set (x := vb) (.inr rfl) (#[.int .i64 (k : Nat), .int .i64 r, .int .i64 cl, .int .i64 (-1), .bool kb0, .bool false] : Array Value).toList 0).sub (Z := Z) (fun q hq => .inl hq))
          have HK9 := Lib.hid (HK8.out.trans hHeld)
          have V9 := HBX
          have HRR := Lib.hid hr
          clear hHeld hEb hE5 hK5 hf hBp hge hEg HB6 HX6 HS6 hst hXV HBX hage HE8 HK8 HL8 CFR CPK
          generalize World.setCells _ vb 0 _ = W9 at *
          have v1 := cells_of_row V9.out 1 _ rfl
          have v2 := cells_of_row V9.out 2 _ rfl
          have v4 := cells_of_row V9.out 4 _ rfl
          obtain ⟨⟨q0, qb, qr, qs⟩, _⟩ := CELL.out _ HK9.out
          have hkbz : ((k : Int) = 0) ↔ (k = 0) := by omega
          have hbe3 : decide (k = 0) = kb0 := HKB0.out
          have hbe2 : decide ((k : Int) = 0) = kb0 := by rw [← hbe3]; exact decide_eq_decide.2 hkbz
          have hbe1 : ((k : Int) == 0) = kb0 := hbe2
          obtain ⟨tk, htk0⟩ : ∃ tk, taken + (if r = 0 then (n : Int) else 0) = tk := ⟨_, rfl⟩
          have hTT := HTK.out
          have hnn := HN42.out
          have hn9 : (n : Int) ≤ 9216 := by omega
          have hE9 := HE9.out
          rw [htk0] at hE9
          have CP := Lib.hid (tok_poll hE9 (by have := HKK.out; omega) ⟨HNW.out.2.1, HNW.out.2.2.2⟩)
          have hff := HFF.out
          have hmost : 0 ≤ tk ∧ tk * 1048576 ≤ bst * 1048576 + rate * nw := by
            obtain ⟨a, S, N, nx, _, _, _, hTM⟩ := hE9
            have h := TM.most hTM (by rw [HFC.out, HBK.out.2.1]; exact hff.2.2.1.1)
            rw [HFC.out, HBK.out.2.1, HBK.out.2.2] at h
            exact h
          have hrn0 : 0 ≤ rate * nw := Int.mul_nonneg hff.2.2.1.1 HNW.out.2.1
          have hrn1 : rate * nw ≤ 1048576 * 2686935 := Int.mul_le_mul hff.2.2.1.2 (by have := HNW.out.2.2.1; have := HKK.out; omega) HNW.out.2.1 (by decide)
          obtain ⟨rn, hrn⟩ : ∃ rn, rate * nw = rn := ⟨_, rfl⟩
          rw [hrn] at hmost hrn0 hrn1
          have hle2 : tk ≤ 10000 * ((k + 1 : Nat) : Int) := by rw [← htk0]; split <;> omega
          have hkk := HKK.out
          have hwA : IntKind.i64.wrap (tk * 1048576) = tk * 1048576 := IntWalk.i64_in _ (by omega)
          have hwB : IntKind.i64.wrap (bst * 1048576) = bst * 1048576 := IntWalk.i64_in _ (by omega)
          have hwC : IntKind.i64.wrap rn = rn := IntWalk.i64_in _ (by omega)
          have hwD : IntKind.i64.wrap (bst * 1048576 + rn) = bst * 1048576 + rn := IntWalk.i64_in _ (by omega)
          have hchk : tk * 1048576 ≤ bst * 1048576 + rn := hmost.2
          have hchk2 : decide (bst * 1048576 + rn < tk * 1048576) = false := decide_eq_false (by omega)
          have HTB := Lib.hid hle2
          have hmost0 := hmost.1
          clear hE9 hle2 hmost hkbz hff HE9 hrn0 hrn1
          rcases HRR.out with ⟨hr, hcl⟩ | ⟨hr | hr, hcl⟩
          · skip
            subst hr
            subst hcl
            have htk : taken + (n : Int) = tk := by rw [← htk0]; simp
            clear htk0
            have hts : IntKind.i64.wrap tk = tk := IntWalk.i64_in _ (by omega)
            go_wp2_with fail
            refine CP.out.mono ?_
            rintro e W10 ⟨⟨rv, rfl⟩, hE10, hK10⟩
            have HE10 := Lib.hid hE10
            have HK10 := Lib.hid (HK9.out.trans hK10)
            clear hE10 hK10 q0 qb qr qs v1 v2 v4 CP
            obtain ⟨⟨q0, qb, qr, qs⟩, _⟩ := CELL.out _ HK10.out
            go_wp2_with fail
            refine ⟨⟨k + 1, nw, tk, 0, by have := HKK.out; omega, rfl, rfl, rfl, HNW.out.2.1, HNW.out.2.2.1, by omega, HTB.out, HE10.out, HK10.out⟩, ?_⟩
            simp only [intOf]
            have := HKK.out
            omega
          · skip
            subst hr
            subst hcl
            have htk : taken = tk := by rw [← htk0]; simp
            clear htk0
            go_wp2_with fail
            refine CP.out.mono ?_
            rintro e W10 ⟨⟨rv, rfl⟩, hE10, hK10⟩
            have HE10 := Lib.hid hE10
            have HK10 := Lib.hid (HK9.out.trans hK10)
            clear hE10 hK10 q0 qb qr qs v1 v2 v4 CP
            obtain ⟨⟨q0, qb, qr, qs⟩, _⟩ := CELL.out _ HK10.out
            go_wp2_with fail
            refine ⟨⟨k + 1, nw, tk, 0, by have := HKK.out; omega, rfl, rfl, rfl, HNW.out.2.1, HNW.out.2.2.1, by omega, HTB.out, HE10.out, HK10.out⟩, ?_⟩
            simp only [intOf]
            have := HKK.out
            omega
          · skip
            subst hr
            subst hcl
            have htk : taken = tk := by rw [← htk0]; simp
            clear htk0
            go_wp2_with fail
            refine CP.out.mono ?_
            rintro e W10 ⟨⟨rv, rfl⟩, hE10, hK10⟩
            have HE10 := Lib.hid hE10
            have HK10 := Lib.hid (HK9.out.trans hK10)
            clear hE10 hK10 q0 qb qr qs v1 v2 v4 CP
            obtain ⟨⟨q0, qb, qr, qs⟩, _⟩ := CELL.out _ HK10.out
            go_wp2_with fail
            refine ⟨⟨k + 1, nw, tk, 0, by have := HKK.out; omega, rfl, rfl, rfl, HNW.out.2.1, HNW.out.2.2.1, by omega, HTB.out, HE10.out, HK10.out⟩, ?_⟩
            simp only [intOf]
            have := HKK.out
            omega
  · have CS := Lib.hid (fun w' => start_no cw kv d w' HV2.out HK.out hR)
    clear hR
    go_wp2_with (first | ((with_reducible refine arm_load 44 4 26 (.pointer (some ⟨cb, 0, none⟩)) (.agg cw) hl1 ?_ ?_); rfl) | ((with_reducible refine arm_load 45 5 22 (.pointer (some ⟨kb, 0, none⟩)) (.agg kv) hl2 ?_ ?_); rfl))
    refine (CS.out _).mono ?_
    rintro e w5 ⟨⟨X, hX, rfl⟩, hB5⟩
    have B5 := Lib.hid (B4.out.trans (hB5.mono B4.out.size))
    have HX := Lib.hid hX
    have HSX := Lib.hid (show (Tryz.prog.info? 109).map (·.size) = some X.size by rw [hX.size]; exact HWS.out)
    clear hX hB5 B4 X4 Y4 hl1 hl2 CS
    go_upto_region 5 with (first
      | ((with_reducible refine arm_alloc 9 109 ZW 120 HZW.out ?_); intro w6 HB HXX HS; have hst := box_store (t := 109) (x := X) HXX.out HSX.out HX.out.one (HZWS.out.trans HX.out.size.symm))
      | ((with_reducible refine arm_store 9 47 109 _ _ _ hst ?_ ?_ ?_); rfl; rfl))
    have hB6 := below_setCells (b := w5.heap.size) (Nat.le_refl _) X.toList 0 HB.out
    have B6 := Lib.hid (B5.out.trans (hB6.mono B5.out.size))
    clear hst hB6 HB HXX HS B5
    generalize w6.setCells w5.heap.size 0 X.toList = w7 at *
    go_wp2
    go_ret
    exact ⟨rfl, B6.out⟩
/-- The law TopTokens, walked. -/
theorem walk_tokens (cv kv : Array Value) (a2 : Option Addr) (l2 c2 : Nat) (z2 : List Int) (a3 : Option Addr) (l3 c3 : Nat) (z3 : List Int) (w : World) (h0 : ∃ c, Cfg cv c) (h1 : kv.size = 16 ∧ kv.all (·.oneCell') = true) (h2 : IsRow .u16 w a2 l2 c2 z2) (h3 : IsRow .u16 w a3 l3 c3 z3) :
    Calls Tryz.prog 7 #[.agg cv, .agg kv, .slice a2 l2 c2, .slice a3 l3 c3] w fun e w' => e = .returned (.bool true) ∧ Below w.heap.size w w' := by
  obtain ⟨c, hv⟩ := h0
  obtain ⟨K2, rfl, hN2, hm2⟩ := nums_of h2
  obtain ⟨K3, rfl, hN3, hm3⟩ := nums_of h3
  rcases Nat.lt_or_ge 40 K2.length with q1 | q1
  · exact tokens_skip cv kv c a2 _ c2 a3 _ c3 w hv hm2 hm3 (.inl q1)
  rcases Nat.lt_or_ge K3.length K2.length with q2 | q2
  · exact tokens_skip cv kv c a2 _ c2 a3 _ c3 w hv hm2 hm3 (.inr (.inl ⟨q1, q2⟩))
  rcases Int.lt_or_le 50 (c 1) with q3 | q3
  · exact tokens_skip cv kv c a2 _ c2 a3 _ c3 w hv hm2 hm3 (.inr (.inr (.inl ⟨q1, q2, q3⟩)))
  rcases Int.lt_or_le 1048576 (c 18) with q4 | q4
  · exact tokens_skip cv kv c a2 _ c2 a3 _ c3 w hv hm2 hm3 (.inr (.inr (.inr ⟨q1, q2, q3, q4⟩)))
  exact tokens_main cv kv c a2 K2 c2 a3 K3 c3 w hv h1.1 h1.2 q1 q2 q3 q4 hN2 hN3
end Go.Proofs.YtpanmfdbdgecaaaGreat.C
