/- Whither a flow falls: generations that don't move, bins of one level. · A flow's bins of one level, through the generations and the police. -/
import Derived.Test.YtpanmfdbdgecaaaGreatY10
namespace Go.Proofs.YtpanmfdbdgecaaaGreat.C
open Go.RowKit
set_option linter.unusedVariables false
set_option maxRecDepth 100000 in
theorem keyed_bucket (kv fl : Array Value) (K FK : Nat → Nat) (n : Nat) (w : World) (hk : Key16 kv K) (hf : KeyOf fl FK) (h1 : 1 ≤ n) (h2 : n ≤ 64) :
    Calls Tryz.prog 168 #[.agg kv, .agg fl, .int .i64 (n : Nat)] w fun e w' => e = .returned (.int .i64 (fallV K FK 0 n : Nat)) ∧ Below w.heap.size w w' := by
  have CF := Lib.hid (fun w => keyed_fall kv fl K FK 0 n w hk hf (by omega) h1 h2)
  have HFS := Lib.hid (show (Tryz.prog.info? 58).map (·.size) = some fl.size by rw [hf.size]; exact flow_info)
  have HKS := Lib.hid (show (Tryz.prog.info? 22).map (·.size) = some kv.size by rw [hk.size]; exact key16_info)
  clear hk hf
  generalize fallV K FK 0 n = r at *
  go_enter Tryz.func168, Tryz.ntmps168
  go_upto_region 1 with (first
    | ((with_reducible refine arm_box 3 0 22 kv ?_ ?_); rfl; intro w1 HB1 HX1 HS1)
    | ((with_reducible refine arm_box 4 1 58 fl ?_ ?_); rfl; intro w2 HB2 HX2 HS2))
  have hl1 := box_load (t := 22) (keep_block HB2.out HX1.out) _ Tryz.underlying22 rfl HKS.out
  have hl2 := box_load (t := 58) HX2.out _ Tryz.underlying58 rfl HFS.out
  have B2 := Lib.hid (HB1.out.trans (HB2.out.mono HB1.out.size))
  clear HX1 HX2
  go_wp2_with (first
    | ((with_reducible refine arm_load 7 3 22 _ _ hl1 ?_ ?_); rfl)
    | ((with_reducible refine arm_load 8 4 58 _ _ hl2 ?_ ?_); rfl))
  refine (CF.out _).mono ?_
  rintro e w3 ⟨rfl, hB⟩
  have HB3 := Lib.hid (B2.out.trans (hB.mono B2.out.size))
  clear hB hl1 hl2
  go_wp2
  go_ret
  exact ⟨rfl, HB3.out⟩
section
variable {w : World} {b n : Nat} {kv G : Array Value}
theorem GnAt.cells (h : GnAt w b n kv G) : w.cell? ⟨b, 0, none⟩ = some (.int .i64 (n : Nat)) ∧ w.cell? ⟨b, 33, none⟩ = some (.int .i64 0) ∧ w.cell? ⟨b, 34, none⟩ = some (.bool false) := ⟨cells_of_row h.ptr 0 _ h.c0, cells_of_row h.ptr 33 _ h.old, cells_of_row h.ptr 34 _ h.mov⟩
theorem GnAt.keyLoad (h : GnAt w b n kv G) (hk : kv.size = 16) : (Instr.loadAt 22 (.pointer (some ⟨b, 1, none⟩))).run Tryz.prog w = .ok (.agg kv) w := by
  have := run_loadAt_mid (P := Tryz.prog) w b 1 22 kv.toList _ (fun j v hv => cells_of_row h.ptr (1 + j) _ (by
    have hj : j < 16 := by
      have := (List.getElem?_eq_some_iff.1 hv).1
      rwa [Array.length_toList, hk] at this
    rw [h.key j hj]
    simpa using hv)) Tryz.underlying22 rfl (by rw [key16_info, Array.length_toList, hk])
  simpa using this
end
set_option maxRecDepth 100000 in
theorem gens_class (b n : Nat) (kv fl G : Array Value) (K FK : Nat → Nat) (w : World) (hg : GnAt w b n kv G) (hk : Key16 kv K) (hf : KeyOf fl FK) (h1 : 1 ≤ n) (h2 : n ≤ 64) :
    Calls Tryz.prog 134 #[.pointer (some ⟨b, 0, none⟩), .int .i64 0, .agg fl] w fun e w' => e = .returned (.int .i64 (fallV K FK 0 n : Nat)) ∧ Below w.heap.size w w' := by
  have CB := Lib.hid (fun w => keyed_bucket kv fl K FK n w hk hf h1 h2)
  have HFS := Lib.hid (show (Tryz.prog.info? 58).map (·.size) = some fl.size by rw [hf.size]; exact flow_info)
  have HG := Lib.hid hg
  have HK := Lib.hid hk.size
  have hr := fallV_lt K FK 0 n h1
  clear hk hf hg
  generalize fallV K FK 0 n = r at *
  have hz1 : IntKind.i64.wrap (0 * (n : Int)) = 0 := by rw [Int.zero_mul]; rfl
  have hz2 : IntKind.i64.wrap (0 + (r : Int)) = (r : Int) := by rw [Int.zero_add]; exact IntWalk.i64_in _ (by omega)
  have hz3 : IntKind.i64.wrap (r : Int) = (r : Int) := IntWalk.i64_in _ (by omega)
  go_enter Tryz.func134, Tryz.ntmps134
  go_upto_region 1 with ((with_reducible refine arm_box 5 2 58 fl ?_ ?_); rfl; intro w2 HB2 HX2 HS2)
  have HLD : Hid (∀ w', Below w2.heap.size w2 w' → w'.cell? ⟨b, 0, none⟩ = some (.int .i64 (n : Nat)) ∧ (Instr.loadAt 22 (.pointer (some ⟨b, 1, none⟩))).run Tryz.prog w' = .ok (.agg kv) w' ∧ (Instr.loadAt 58 (.pointer (some ⟨w.heap.size, 0, none⟩))).run Tryz.prog w' = .ok (.agg fl) w') := Lib.hid fun w' q =>
    ⟨((HG.out.below HB2.out).below q).cells.1, ((HG.out.below HB2.out).below q).keyLoad HK.out, box_load (t := 58) (keep_block q HX2.out) _ Tryz.underlying58 rfl HFS.out⟩
  go_wp2_with fail
  refine wp_region_held_drew (S := Below w2.heap.size w2) (by kernel_rfl) (Below.refl _ _).drew (fun hHeld => ?_)
  refine wpAnyH_take (i := 0) (oi := ⟨some 7, _, _, _, _, _⟩) (v := ?_) rfl (by kernel_rfl) (by kernel_rfl) (by kernel_rfl) (fun _ _ _ h => h) (Or.inl ⟨by rfl, ?_⟩) hHeld ?_
  rotate_left
  · intro w hSw
    go_simp
    try with_reducible rfl
  try simp only [Act.put, List.setIfInBounds_toArray, List.set_cons_zero, List.set_cons_succ]
  refine wpAnyH_take (i := 1) (oi := ⟨some 8, _, _, _, _, _⟩) (v := ?_) rfl (by kernel_rfl) (by kernel_rfl) (by kernel_rfl) (fun _ _ _ h => h) (Or.inl ⟨by rfl, ?_⟩) hHeld ?_
  rotate_left
  · intro w hSw
    go_simp
    try with_reducible rfl
  try simp only [Act.put, List.setIfInBounds_toArray, List.set_cons_zero, List.set_cons_succ]
  refine wpAnyH_take (i := 2) (oi := ⟨some 9, _, _, _, _, _⟩) (v := ?_) rfl (by kernel_rfl) (by kernel_rfl) (by kernel_rfl) (fun _ _ _ h => h) (Or.inl ⟨by rfl, ?_⟩) hHeld ?_
  rotate_left
  · intro w hSw
    go_simp
    try with_reducible rfl
  try simp only [Act.put, List.setIfInBounds_toArray, List.set_cons_zero, List.set_cons_succ]
  refine wpAnyH_take (i := 3) (oi := ⟨some 10, _, _, _, _, _⟩) (v := ?_) rfl (by kernel_rfl) (by kernel_rfl) (by kernel_rfl) (fun _ _ _ h => h) (Or.inl ⟨by rfl, ?_⟩) hHeld ?_
  rotate_left
  · intro w hSw
    go_simp
    try with_reducible rfl
  try simp only [Act.put, List.setIfInBounds_toArray, List.set_cons_zero, List.set_cons_succ]
  refine wpAnyH_take (i := 4) (oi := ⟨some 11, _, _, _, _, _⟩) (v := ?_) rfl (by kernel_rfl) (by kernel_rfl) (by kernel_rfl) (fun _ _ _ h => h) (Or.inl ⟨by rfl, ?_⟩) hHeld ?_
  rotate_left
  · intro w hSw
    obtain ⟨k0, _, _⟩ := HLD.out w hSw
    go_simp
    try with_reducible rfl
  try simp only [Act.put, List.setIfInBounds_toArray, List.set_cons_zero, List.set_cons_succ]
  refine wpAnyH_take (i := 5) (oi := ⟨some 12, _, _, _, _, _⟩) (v := ?_) rfl (by kernel_rfl) (by kernel_rfl) (by kernel_rfl) (fun _ _ _ h => h) (Or.inl ⟨by rfl, ?_⟩) hHeld ?_
  rotate_left
  · intro w hSw
    go_simp
    try with_reducible rfl
  try simp only [Act.put, List.setIfInBounds_toArray, List.set_cons_zero, List.set_cons_succ]
  refine wpAnyH_take (i := 6) (oi := ⟨some 13, _, _, _, _, _⟩) (v := ?_) rfl (by kernel_rfl) (by kernel_rfl) (by kernel_rfl) (fun _ _ _ h => h) (Or.inl ⟨by rfl, ?_⟩) hHeld ?_
  rotate_left
  · intro w hSw
    go_simp
    try with_reducible rfl
  try simp only [Act.put, List.setIfInBounds_toArray, List.set_cons_zero, List.set_cons_succ]
  refine wpAnyH_take (i := 7) (oi := ⟨some 14, _, _, _, _, _⟩) (v := ?_) rfl (by kernel_rfl) (by kernel_rfl) (by kernel_rfl) (fun _ _ _ h => h) (Or.inl ⟨by rfl, ?_⟩) hHeld ?_
  rotate_left
  · intro w hSw
    go_simp
    try with_reducible rfl
  try simp only [Act.put, List.setIfInBounds_toArray, List.set_cons_zero, List.set_cons_succ]
  refine wpAnyH_take (i := 8) (oi := ⟨some 15, _, _, _, _, _⟩) (v := ?_) rfl (by kernel_rfl) (by kernel_rfl) (by kernel_rfl) (fun _ _ _ h => h) (Or.inl ⟨by rfl, ?_⟩) hHeld ?_
  rotate_left
  · intro w hSw
    go_simp
    try with_reducible rfl
  try simp only [Act.put, List.setIfInBounds_toArray, List.set_cons_zero, List.set_cons_succ]
  refine wpAnyH_take (i := 9) (oi := ⟨some 16, _, _, _, _, _⟩) (v := ?_) rfl (by kernel_rfl) (by kernel_rfl) (by kernel_rfl) (fun _ _ _ h => h) (Or.inl ⟨by rfl, ?_⟩) hHeld ?_
  rotate_left
  · intro w hSw
    go_simp
    try with_reducible rfl
  try simp only [Act.put, List.setIfInBounds_toArray, List.set_cons_zero, List.set_cons_succ]
  refine wpAnyH_take (i := 10) (oi := ⟨some 17, _, _, _, _, _⟩) (v := ?_) rfl (by kernel_rfl) (by kernel_rfl) (by kernel_rfl) (fun _ _ _ h => h) (Or.inl ⟨by rfl, ?_⟩) hHeld ?_
  rotate_left
  · intro w hSw
    go_simp
    try with_reducible rfl
  try simp only [Act.put, List.setIfInBounds_toArray, List.set_cons_zero, List.set_cons_succ]
  refine wpAnyH_take (i := 11) (oi := ⟨some 18, _, _, _, _, _⟩) (v := .agg kv) rfl (by kernel_rfl) (by kernel_rfl) (by kernel_rfl) (fun _ _ _ h => h) (Or.inl ⟨by rfl, fun w hSw => exec_load rfl (HLD.out w hSw).2.1⟩) hHeld ?_
  try simp only [Act.put, List.setIfInBounds_toArray, List.set_cons_zero, List.set_cons_succ]
  refine wpAnyH_take (i := 12) (oi := ⟨some 19, _, _, _, _, _⟩) (v := .agg fl) rfl (by kernel_rfl) (by kernel_rfl) (by kernel_rfl) (fun _ _ _ h => h) (Or.inl ⟨by rfl, fun w hSw => exec_load rfl (HLD.out w hSw).2.2⟩) hHeld ?_
  try simp only [Act.put, List.setIfInBounds_toArray, List.set_cons_zero, List.set_cons_succ]
  refine wpAnyH_take (i := 13) (oi := ⟨some 20, _, _, _, _, _⟩) (v := ?_) rfl (by kernel_rfl) (by kernel_rfl) (by kernel_rfl) (fun _ _ _ h => h) (Or.inl ⟨by rfl, ?_⟩) hHeld ?_
  rotate_left
  · intro w hSw
    go_simp
    try with_reducible rfl
  try simp only [Act.put, List.setIfInBounds_toArray, List.set_cons_zero, List.set_cons_succ]
  refine wpAnyH_take (i := 14) (oi := ⟨some 21, _, _, _, _, _⟩) (v := ?_) rfl (by kernel_rfl) (by kernel_rfl) (by kernel_rfl) (fun _ _ _ h => h) (Or.inl ⟨by rfl, ?_⟩) hHeld ?_
  rotate_left
  · intro w hSw
    go_simp
    try with_reducible rfl
  try simp only [Act.put, List.setIfInBounds_toArray, List.set_cons_zero, List.set_cons_succ]
  refine wpAnyH_take (i := 15) (oi := ⟨some 22, _, _, _, _, _⟩) (v := ?_) rfl (by kernel_rfl) (by kernel_rfl) (by kernel_rfl) (fun _ _ _ h => h) (Or.inl ⟨by rfl, ?_⟩) hHeld ?_
  rotate_left
  · intro w hSw
    go_simp
    try with_reducible rfl
  try simp only [Act.put, List.setIfInBounds_toArray, List.set_cons_zero, List.set_cons_succ]
  refine wpAnyH_take (i := 16) (oi := ⟨some 23, _, _, _, _, _⟩) (v := ?_) rfl (by kernel_rfl) (by kernel_rfl) (by kernel_rfl) (fun _ _ _ h => h) (Or.inl ⟨by rfl, ?_⟩) hHeld ?_
  rotate_left
  · intro w hSw
    obtain ⟨k0, _, _⟩ := HLD.out w hSw
    go_simp
    try with_reducible rfl
  try simp only [Act.put, List.setIfInBounds_toArray, List.set_cons_zero, List.set_cons_succ]
  refine wpAnyH_ready (rs := [17]) (by kernel_rfl) (by simp) ?_
  refine AllReadyH.cons rfl (fun K hK => ?_) AllReadyH.nil
  go_simp
  go_wp2_with (go_at_call 168; go_must (refine (CB.out _).mono ?_; rintro e w17 ⟨rfl, hB⟩))
  refine hK.out _ _ (hHeld.trans (hB.mono hHeld.size)) (fun hHeld => ?_)
  clear hK K
  refine wpAnyH_take (i := 18) (oi := ⟨some 25, _, _, _, _, _⟩) (v := ?_) rfl (by kernel_rfl) (by kernel_rfl) (by kernel_rfl) (fun _ _ _ h => h) (Or.inl ⟨by rfl, ?_⟩) hHeld ?_
  rotate_left
  · intro w hSw
    go_simp
    try with_reducible rfl
  try simp only [Act.put, List.setIfInBounds_toArray, List.set_cons_zero, List.set_cons_succ]
  refine wpAnyH_take (i := 19) (oi := ⟨some 6, _, _, _, _, _⟩) (v := ?_) rfl (by kernel_rfl) (by kernel_rfl) (by kernel_rfl) (fun _ _ _ h => h) (Or.inl ⟨by rfl, ?_⟩) hHeld ?_
  rotate_left
  · intro w hSw
    go_simp
    try with_reducible rfl
  try simp only [Act.put, List.setIfInBounds_toArray, List.set_cons_zero, List.set_cons_succ]
  refine wpAnyH_done (by kernel_rfl) ?_ _
  have HB3 := Lib.hid (HB2.out.trans (hHeld.mono HB2.out.size))
  clear hB hHeld
  go_wp2
  go_ret
  have e : IntKind.i64.wrap (IntKind.i64.wrap 0 + (r : Int)) = (r : Int) := hz2
  refine ⟨?_, HB3.out⟩
  show Ending.returned (.int .i64 (IntKind.i64.wrap (IntKind.i64.wrap 0 + (r : Int)))) = _
  rw [e]
set_option maxRecDepth 100000 in
theorem gens_where (b n : Nat) (kv fl G : Array Value) (K FK : Nat → Nat) (w : World) (hg : GnAt w b n kv G) (hk : Key16 kv K) (hf : KeyOf fl FK) (h1 : 1 ≤ n) (h2 : n ≤ 64) :
    Calls Tryz.prog 75 #[.pointer (some ⟨b, 0, none⟩), .agg fl] w fun e w' => e = .returned (.tuple #[.int .i64 0, .int .i64 (fallV K FK 0 n : Nat)]) ∧ Below w.heap.size w w' := by
  have CC := Lib.hid (fun w (q : GnAt w b n kv G) => gens_class b n kv fl G K FK w q hk hf h1 h2)
  have HFS := Lib.hid (show (Tryz.prog.info? 58).map (·.size) = some fl.size by rw [hf.size]; exact flow_info)
  have HG := Lib.hid hg
  clear hk hf hg
  generalize fallV K FK 0 n = r at *
  go_enter Tryz.func75, Tryz.ntmps75
  go_upto_region 1 with ((with_reducible refine arm_box 3 1 58 fl ?_ ?_); rfl; intro w2 HB2 HX2 HS2)
  have hg2 := HG.out.below HB2.out
  obtain ⟨k0, k1, k2⟩ := hg2.cells
  have hl2 := box_load (t := 58) HX2.out _ Tryz.underlying58 rfl HFS.out
  have C2 := Lib.hid (CC.out w2 hg2)
  go_wp2_with ((with_reducible refine arm_load 16 3 58 _ _ hl2 ?_ ?_); rfl)
  refine C2.out.mono ?_
  rintro e w3 ⟨rfl, hB⟩
  have HB3 := Lib.hid (HB2.out.trans (hB.mono HB2.out.size))
  have HG3 := Lib.hid (hg2.below hB)
  clear hB hl2 k0 k1 k2 hg2 C2
  have HLD : Hid (∀ w', Below w3.heap.size w3 w' → w'.cell? ⟨b, 34, none⟩ = some (.bool false)) := Lib.hid fun w' q => (HG3.out.below q).cells.2.2
  go_wp2_with fail
  refine wp_region_held_drew (S := Below w3.heap.size w3) (by kernel_rfl) (Below.refl _ _).drew (fun hHeld => ?_)
  refine wpAnyH_take (i := 0) (oi := ⟨some 18, _, _, _, _, _⟩) (v := ?_) rfl (by kernel_rfl) (by kernel_rfl) (by kernel_rfl) (fun _ _ _ h => h) (Or.inl ⟨by rfl, ?_⟩) hHeld ?_
  rotate_left
  · intro w hSw
    go_simp
    try with_reducible rfl
  try simp only [Act.put, List.setIfInBounds_toArray, List.set_cons_zero, List.set_cons_succ]
  refine wpAnyH_take (i := 1) (oi := ⟨some 19, _, _, _, _, _⟩) (v := ?_) rfl (by kernel_rfl) (by kernel_rfl) (by kernel_rfl) (fun _ _ _ h => h) (Or.inl ⟨by rfl, ?_⟩) hHeld ?_
  rotate_left
  · intro w hSw
    go_simp
    try with_reducible rfl
  try simp only [Act.put, List.setIfInBounds_toArray, List.set_cons_zero, List.set_cons_succ]
  refine wpAnyH_take (i := 2) (oi := ⟨some 20, _, _, _, _, _⟩) (v := ?_) rfl (by kernel_rfl) (by kernel_rfl) (by kernel_rfl) (fun _ _ _ h => h) (Or.inl ⟨by rfl, ?_⟩) hHeld ?_
  rotate_left
  · intro w hSw
    go_simp
    try with_reducible rfl
  try simp only [Act.put, List.setIfInBounds_toArray, List.set_cons_zero, List.set_cons_succ]
  refine wpAnyH_take (i := 3) (oi := ⟨some 21, _, _, _, _, _⟩) (v := ?_) rfl (by kernel_rfl) (by kernel_rfl) (by kernel_rfl) (fun _ _ _ h => h) (Or.inl ⟨by rfl, ?_⟩) hHeld ?_
  rotate_left
  · intro w hSw
    obtain k2 := HLD.out w hSw
    go_simp
    try with_reducible rfl
  try simp only [Act.put, List.setIfInBounds_toArray, List.set_cons_zero, List.set_cons_succ]
  refine wpAnyH_take (i := 4) (oi := ⟨some 22, _, _, _, _, _⟩) (v := ?_) rfl (by kernel_rfl) (by kernel_rfl) (by kernel_rfl) (fun _ _ _ h => h) (Or.inl ⟨by rfl, ?_⟩) hHeld ?_
  rotate_left
  · intro w hSw
    go_simp
    try with_reducible rfl
  try simp only [Act.put, List.setIfInBounds_toArray, List.set_cons_zero, List.set_cons_succ]
  refine wpAnyH_take (i := 5) (oi := ⟨some 23, _, _, _, _, _⟩) (v := ?_) rfl (by kernel_rfl) (by kernel_rfl) (by kernel_rfl) (fun _ _ _ h => h) (Or.inl ⟨by rfl, ?_⟩) hHeld ?_
  rotate_left
  · intro w hSw
    go_simp
    try with_reducible rfl
  try simp only [Act.put, List.setIfInBounds_toArray, List.set_cons_zero, List.set_cons_succ]
  refine wpAnyH_take (i := 6) (oi := ⟨some 24, _, _, _, _, _⟩) (v := undef) rfl (by kernel_rfl) (by kernel_rfl) (by kernel_rfl) (fun _ _ _ h => h) (Or.inr ⟨by rfl, rfl⟩) hHeld ?_
  try simp only [Act.put, List.setIfInBounds_toArray, List.set_cons_zero, List.set_cons_succ]
  refine wpAnyH_take (i := 7) (oi := ⟨some 25, _, _, _, _, _⟩) (v := undef) rfl (by kernel_rfl) (by kernel_rfl) (by kernel_rfl) (fun _ _ _ h => h) (Or.inr ⟨by rfl, rfl⟩) hHeld ?_
  try simp only [Act.put, List.setIfInBounds_toArray, List.set_cons_zero, List.set_cons_succ]
  refine wpAnyH_take (i := 8) (oi := ⟨some 26, _, _, _, _, _⟩) (v := undef) rfl (by kernel_rfl) (by kernel_rfl) (by kernel_rfl) (fun _ _ _ h => h) (Or.inr ⟨by rfl, rfl⟩) hHeld ?_
  try simp only [Act.put, List.setIfInBounds_toArray, List.set_cons_zero, List.set_cons_succ]
  refine wpAnyH_take (i := 9) (oi := ⟨some 27, _, _, _, _, _⟩) (v := undef) rfl (by kernel_rfl) (by kernel_rfl) (by kernel_rfl) (fun _ _ _ h => h) (Or.inr ⟨by rfl, rfl⟩) hHeld ?_
  try simp only [Act.put, List.setIfInBounds_toArray, List.set_cons_zero, List.set_cons_succ]
  refine wpAnyH_take (i := 10) (oi := ⟨some 28, _, _, _, _, _⟩) (v := undef) rfl (by kernel_rfl) (by kernel_rfl) (by kernel_rfl) (fun _ _ _ h => h) (Or.inr ⟨by rfl, rfl⟩) hHeld ?_
  try simp only [Act.put, List.setIfInBounds_toArray, List.set_cons_zero, List.set_cons_succ]
  refine wpAnyH_take (i := 11) (oi := ⟨some 29, _, _, _, _, _⟩) (v := undef) rfl (by kernel_rfl) (by kernel_rfl) (by kernel_rfl) (fun _ _ _ h => h) (Or.inr ⟨by rfl, rfl⟩) hHeld ?_
  try simp only [Act.put, List.setIfInBounds_toArray, List.set_cons_zero, List.set_cons_succ]
  refine wpAnyH_take (i := 12) (oi := ⟨some 30, _, _, _, _, _⟩) (v := undef) rfl (by kernel_rfl) (by kernel_rfl) (by kernel_rfl) (fun _ _ _ h => h) (Or.inr ⟨by rfl, rfl⟩) hHeld ?_
  try simp only [Act.put, List.setIfInBounds_toArray, List.set_cons_zero, List.set_cons_succ]
  refine wpAnyH_take (i := 13) (oi := ⟨some 31, _, _, _, _, _⟩) (v := undef) rfl (by kernel_rfl) (by kernel_rfl) (by kernel_rfl) (fun _ _ _ h => h) (Or.inr ⟨by rfl, rfl⟩) hHeld ?_
  try simp only [Act.put, List.setIfInBounds_toArray, List.set_cons_zero, List.set_cons_succ]
  refine wpAnyH_take (i := 14) (oi := ⟨some 32, _, _, _, _, _⟩) (v := undef) rfl (by kernel_rfl) (by kernel_rfl) (by kernel_rfl) (fun _ _ _ h => h) (Or.inr ⟨by rfl, rfl⟩) hHeld ?_
  try simp only [Act.put, List.setIfInBounds_toArray, List.set_cons_zero, List.set_cons_succ]
  refine wpAnyH_take (i := 15) (oi := ⟨some 33, _, _, _, _, _⟩) (v := undef) rfl (by kernel_rfl) (by kernel_rfl) (by kernel_rfl) (fun _ _ _ h => h) (Or.inr ⟨by rfl, rfl⟩) hHeld ?_
  try simp only [Act.put, List.setIfInBounds_toArray, List.set_cons_zero, List.set_cons_succ]
  refine wpAnyH_take (i := 16) (oi := ⟨some 34, _, _, _, _, _⟩) (v := undef) rfl (by kernel_rfl) (by kernel_rfl) (by kernel_rfl) (fun _ _ _ h => h) (Or.inr ⟨by rfl, rfl⟩) hHeld ?_
  try simp only [Act.put, List.setIfInBounds_toArray, List.set_cons_zero, List.set_cons_succ]
  refine wpAnyH_take (i := 17) (oi := ⟨some 35, _, _, _, _, _⟩) (v := undef) rfl (by kernel_rfl) (by kernel_rfl) (by kernel_rfl) (fun _ _ _ h => h) (Or.inr ⟨by rfl, rfl⟩) hHeld ?_
  try simp only [Act.put, List.setIfInBounds_toArray, List.set_cons_zero, List.set_cons_succ]
  refine wpAnyH_take (i := 18) (oi := ⟨some 36, _, _, _, _, _⟩) (v := undef) rfl (by kernel_rfl) (by kernel_rfl) (by kernel_rfl) (fun _ _ _ h => h) (Or.inr ⟨by rfl, rfl⟩) hHeld ?_
  try simp only [Act.put, List.setIfInBounds_toArray, List.set_cons_zero, List.set_cons_succ]
  refine wpAnyH_take (i := 19) (oi := ⟨some 37, _, _, _, _, _⟩) (v := ?_) rfl (by kernel_rfl) (by kernel_rfl) (by kernel_rfl) (fun _ _ _ h => h) (Or.inl ⟨by rfl, ?_⟩) hHeld ?_
  rotate_left
  · intro w hSw
    go_simp
    try with_reducible rfl
  try simp only [Act.put, List.setIfInBounds_toArray, List.set_cons_zero, List.set_cons_succ]
  refine wpAnyH_done (by kernel_rfl) ?_ _
  have HB4 := Lib.hid (HB3.out.trans (hHeld.mono HB3.out.size))
  clear hHeld
  go_wp2
  go_ret2
  exact ⟨rfl, HB4.out⟩
end Go.Proofs.YtpanmfdbdgecaaaGreat.C

namespace Go.Proofs.YtpanmfdbdgecaaaGreat.C
open Go.RowKit
set_option linter.unusedVariables false
/-- Bins of one level: one number, in a row of its own. -/
def BinsR (base : Nat) (w : World) (v : Value) (k : Nat) : Prop := ∃ g c, v = .slice (some ⟨g, 0, none⟩) 1 c ∧ base ≤ g ∧ w.cell? ⟨g, 0, none⟩ = some (.int .i64 (k : Nat))
set_option maxRecDepth 100000 in
set_option maxHeartbeats 1000000 in
theorem keyed_bins (kv fl : Array Value) (K FK : Nat → Nat) (n : Nat) (w : World) (hk : Key16 kv K) (hf : KeyOf fl FK) (h1 : 1 ≤ n) (h2 : n ≤ 64) :
    Calls Tryz.prog 171 #[.agg kv, .agg fl, .int .i64 1, .int .i64 (n : Nat)] w fun e w' => (∃ v, e = .returned v ∧ BinsR w.heap.size w' v (fallV K FK 1 n)) ∧ Below w.heap.size w w' := by
  obtain ⟨i0, hi, hz0, hz1, hz2⟩ := info_parts int_info
  have Hi := Lib.hid hi
  have Hz0 := Lib.hid hz0
  have Hz1 := Lib.hid hz1
  have Hz2 := Lib.hid hz2
  have CF := Lib.hid (fun w => keyed_fall kv fl K FK 1 n w hk hf (by omega) h1 h2)
  have HFS := Lib.hid (show (Tryz.prog.info? 58).map (·.size) = some fl.size by rw [hf.size]; exact flow_info)
  have HKS := Lib.hid (show (Tryz.prog.info? 22).map (·.size) = some kv.size by rw [hk.size]; exact key16_info)
  clear hk hf hi hz0 hz1 hz2
  generalize fallV K FK 1 n = r at *
  go_enter Tryz.func171, Tryz.ntmps171
  go_upto_region 1 with (first
    | ((with_reducible refine arm_box 4 0 22 kv ?_ ?_); rfl; intro w1 HB1 HX1 HS1)
    | ((with_reducible refine arm_box 5 1 58 fl ?_ ?_); rfl; intro w2 HB2 HX2 HS2))
  have B2 := Lib.hid (HB1.out.trans (HB2.out.mono HB1.out.size))
  have HLD : Hid (∀ w', Below w2.heap.size w2 w' → (Instr.loadAt 22 (.pointer (some ⟨w.heap.size, 0, none⟩))).run Tryz.prog w' = .ok (.agg kv) w' ∧ (Instr.loadAt 58 (.pointer (some ⟨w1.heap.size, 0, none⟩))).run Tryz.prog w' = .ok (.agg fl) w') := Lib.hid fun w' h =>
    ⟨box_load (t := 22) (keep_block h (keep_block HB2.out HX1.out)) _ Tryz.underlying22 rfl HKS.out, box_load (t := 58) (keep_block h HX2.out) _ Tryz.underlying58 rfl HFS.out⟩
  clear HX1 HX2
  go_wp2_with fail
  go_loopw [9, 14] (fun s t wr => ∃ i : Nat, i ≤ 1 ∧ t = .int .i64 (i : Nat) ∧ (i = 0 → s = .slice none 0 0 ∧ w2 = wr) ∧ (i = 1 → BinsR w.heap.size wr s r ∧ Below w.heap.size w wr)) (fun _ t _ => 1 - (intOf t).toNat)
  case atStart => exact ⟨0, by omega, rfl, fun _ => ⟨rfl, rfl⟩, fun h => absurd h (by omega)⟩
  case round =>
    obtain ⟨i, hi, rfl, h0, h1⟩ := hrel
    rcases (show i = 0 ∨ i = 1 by omega) with rfl | rfl
    · obtain ⟨rfl, rfl⟩ := h0 rfl
      clear h0 h1
      obtain ⟨hl1, hl2⟩ := HLD.out w2 (Below.refl _ _)
      go_wp2_with (first
        | ((with_reducible refine arm_load 18 4 22 _ _ hl1 ?_ ?_); rfl)
        | ((with_reducible refine arm_load 19 5 58 _ _ hl2 ?_ ?_); rfl))
      refine (CF.out _).mono ?_
      rintro e w3 ⟨rfl, hB⟩
      have HB3 := Lib.hid (B2.out.trans (hB.mono B2.out.size))
      clear hB hl1 hl2
      go_wp2_with (at_builtin; go_must (refine wpList_append_own_at _ rfl (.tmp 17) (.tmp 25) 117 rfl w.heap.size 3 i0 (.int .i64 0) 1 8 Tryz.underlying117 Hi.out Hz0.out Hz1.out Hz2.out rfl (by omega) (.slice none 0 0) 0 [] rfl (World.ownsRow_nil _ _ _ _) ⟨w3.heap.size, 0, none⟩ 1 1 [.int .i64 (r : Nat)] rfl ?hl ?hn ?h1c ?h63 ?hb ?hbase ?next))
      case hl => rfl
      case hn =>
        intro j v hv
        rw [OW.addr_off, Nat.zero_add, cell_of_row _ _ _ _ _ _ (Go.heap_alloc_new w3 _)]
        simpa using hv
      case h1c => intro u hu; simp at hu; subst hu; rfl
      case h63 => simp only [maxLen]; omega
      case hb => omega
      case hbase => simp; have := HB3.out.size; omega
      case next =>
        intro v' w' hown hg _ hat
        have hB : Below w.heap.size w w' := (HB3.out.alloc HB3.out.size (.cells #[.int .i64 (r : Nat)] 3)).grown hg (by simp; have := HB3.out.size; omega) (fun q hq => by cases hq)
        obtain ⟨A3, c3, rfl⟩ := OW.slice hown
        obtain ⟨g3, rfl, hge⟩ : ∃ g3, A3 = some ⟨g3, 0, none⟩ ∧ w.heap.size ≤ g3 := by
          rcases hown.2 with ⟨_, hh⟩ | ⟨g2, cap, cur, hv, hb, _⟩
          · omega
          · injection hv with h4 h5 h6
            exact ⟨g2, h4, hb⟩
        have hc : w'.cell? ⟨g3, 0, none⟩ = some (.int .i64 (r : Nat)) := by
          have := hown.cells (g := g3) rfl 0 (.int .i64 (r : Nat)) (by simp)
          rw [OW.addr_off] at this
          exact this
        have HR := Lib.hid (show BinsR w.heap.size w' (.slice (some ⟨g3, 0, none⟩) 1 c3) r from ⟨g3, c3, rfl, hge, hc⟩)
        have HB4 := Lib.hid hB
        clear hown hg hat hB hge hc
        go_wp2
        go_roundw
        case rel => exact ⟨1, by omega, by go_num, fun h => absurd h (by omega), fun _ => ⟨HR.out, HB4.out⟩⟩
        case measure => simp [intOf]
    · obtain ⟨hR, hB⟩ := h1 rfl
      have HR := Lib.hid hR
      have HB := Lib.hid hB
      clear h0 h1 hR hB
      go_wp2
      go_ret
      exact ⟨⟨_, rfl, HR.out⟩, HB.out⟩
set_option maxRecDepth 100000 in
theorem gens_bins (b n m : Nat) (kv fl G : Array Value) (K FK : Nat → Nat) (w : World) (hg : GnAt w b n kv G) (hk : Key16 kv K) (hf : KeyOf fl FK) (h1 : 1 ≤ m) (h2 : m ≤ 64) :
    Calls Tryz.prog 138 #[.pointer (some ⟨b, 0, none⟩), .int .i64 0, .agg fl, .int .i64 1, .int .i64 (m : Nat)] w fun e w' => (∃ v, e = .returned v ∧ BinsR w.heap.size w' v (fallV K FK 1 m)) ∧ Below w.heap.size w w' := by
  have CB := Lib.hid (fun w => keyed_bins kv fl K FK m w hk hf h1 h2)
  have HFS := Lib.hid (show (Tryz.prog.info? 58).map (·.size) = some fl.size by rw [hf.size]; exact flow_info)
  have HG := Lib.hid hg
  have HK := Lib.hid hk.size
  clear hk hf hg
  generalize fallV K FK 1 m = r at *
  go_enter Tryz.func138, Tryz.ntmps138
  go_upto_region 1 with ((with_reducible refine arm_box 7 2 58 fl ?_ ?_); rfl; intro w2 HB2 HX2 HS2)
  have hg2 := HG.out.below HB2.out
  obtain ⟨k0, k1, k2⟩ := hg2.cells
  have HLD : Hid (∀ w', Below w2.heap.size w2 w' → (Instr.loadAt 22 (.pointer (some ⟨b, 1, none⟩))).run Tryz.prog w' = .ok (.agg kv) w' ∧ (Instr.loadAt 58 (.pointer (some ⟨w.heap.size, 0, none⟩))).run Tryz.prog w' = .ok (.agg fl) w') := Lib.hid fun w' q =>
    ⟨((HG.out.below HB2.out).below q).keyLoad HK.out, box_load (t := 58) (keep_block q HX2.out) _ Tryz.underlying58 rfl HFS.out⟩
  go_upto_region 3 with (fail)
  go_wp2_with fail
  refine wp_region_held_drew (S := Below w2.heap.size w2) (by kernel_rfl) (Below.refl _ _).drew (fun hHeld => ?_)
  refine wpAnyH_take (i := 0) (oi := ⟨some 37, _, _, _, _, _⟩) (v := ?_) rfl (by kernel_rfl) (by kernel_rfl) (by kernel_rfl) (fun _ _ _ h => h) (Or.inl ⟨by rfl, ?_⟩) hHeld ?_
  rotate_left
  · intro w hSw
    go_simp
    try with_reducible rfl
  try simp only [Act.put, List.setIfInBounds_toArray, List.set_cons_zero, List.set_cons_succ]
  refine wpAnyH_take (i := 1) (oi := ⟨some 38, _, _, _, _, _⟩) (v := ?_) rfl (by kernel_rfl) (by kernel_rfl) (by kernel_rfl) (fun _ _ _ h => h) (Or.inl ⟨by rfl, ?_⟩) hHeld ?_
  rotate_left
  · intro w hSw
    go_simp
    try with_reducible rfl
  try simp only [Act.put, List.setIfInBounds_toArray, List.set_cons_zero, List.set_cons_succ]
  refine wpAnyH_take (i := 2) (oi := ⟨some 39, _, _, _, _, _⟩) (v := ?_) rfl (by kernel_rfl) (by kernel_rfl) (by kernel_rfl) (fun _ _ _ h => h) (Or.inl ⟨by rfl, ?_⟩) hHeld ?_
  rotate_left
  · intro w hSw
    go_simp
    try with_reducible rfl
  try simp only [Act.put, List.setIfInBounds_toArray, List.set_cons_zero, List.set_cons_succ]
  refine wpAnyH_take (i := 3) (oi := ⟨some 40, _, _, _, _, _⟩) (v := ?_) rfl (by kernel_rfl) (by kernel_rfl) (by kernel_rfl) (fun _ _ _ h => h) (Or.inl ⟨by rfl, ?_⟩) hHeld ?_
  rotate_left
  · intro w hSw
    go_simp
    try with_reducible rfl
  try simp only [Act.put, List.setIfInBounds_toArray, List.set_cons_zero, List.set_cons_succ]
  refine wpAnyH_take (i := 4) (oi := ⟨some 41, _, _, _, _, _⟩) (v := ?_) rfl (by kernel_rfl) (by kernel_rfl) (by kernel_rfl) (fun _ _ _ h => h) (Or.inl ⟨by rfl, ?_⟩) hHeld ?_
  rotate_left
  · intro w hSw
    go_simp
    try with_reducible rfl
  try simp only [Act.put, List.setIfInBounds_toArray, List.set_cons_zero, List.set_cons_succ]
  refine wpAnyH_take (i := 5) (oi := ⟨some 42, _, _, _, _, _⟩) (v := .agg kv) rfl (by kernel_rfl) (by kernel_rfl) (by kernel_rfl) (fun _ _ _ h => h) (Or.inl ⟨by rfl, fun w hSw => exec_load rfl (HLD.out w hSw).1⟩) hHeld ?_
  try simp only [Act.put, List.setIfInBounds_toArray, List.set_cons_zero, List.set_cons_succ]
  refine wpAnyH_take (i := 6) (oi := ⟨some 43, _, _, _, _, _⟩) (v := .agg fl) rfl (by kernel_rfl) (by kernel_rfl) (by kernel_rfl) (fun _ _ _ h => h) (Or.inl ⟨by rfl, fun w hSw => exec_load rfl (HLD.out w hSw).2⟩) hHeld ?_
  try simp only [Act.put, List.setIfInBounds_toArray, List.set_cons_zero, List.set_cons_succ]
  refine wpAnyH_take (i := 7) (oi := ⟨some 44, _, _, _, _, _⟩) (v := ?_) rfl (by kernel_rfl) (by kernel_rfl) (by kernel_rfl) (fun _ _ _ h => h) (Or.inl ⟨by rfl, ?_⟩) hHeld ?_
  rotate_left
  · intro w hSw
    go_simp
    try with_reducible rfl
  try simp only [Act.put, List.setIfInBounds_toArray, List.set_cons_zero, List.set_cons_succ]
  refine wpAnyH_take (i := 8) (oi := ⟨some 45, _, _, _, _, _⟩) (v := ?_) rfl (by kernel_rfl) (by kernel_rfl) (by kernel_rfl) (fun _ _ _ h => h) (Or.inl ⟨by rfl, ?_⟩) hHeld ?_
  rotate_left
  · intro w hSw
    go_simp
    try with_reducible rfl
  try simp only [Act.put, List.setIfInBounds_toArray, List.set_cons_zero, List.set_cons_succ]
  refine wpAnyH_ready (rs := [9]) (by kernel_rfl) (by simp) ?_
  refine AllReadyH.cons rfl (fun K hK => ?_) AllReadyH.nil
  go_simp
  go_wp2_with (go_at_call 171; go_must (refine (CB.out _).mono ?_; rintro e w9 ⟨⟨v, rfl, hR⟩, hB⟩))
  refine hK.out _ _ (hHeld.trans (hB.mono hHeld.size)) (fun hHeld => ?_)
  clear hK K
  refine wpAnyH_take (i := 10) (oi := ⟨some 10, _, _, _, _, _⟩) (v := ?_) rfl (by kernel_rfl) (by kernel_rfl) (by kernel_rfl) (fun _ _ _ h => h) (Or.inl ⟨by rfl, ?_⟩) hHeld ?_
  rotate_left
  · intro w hSw
    go_simp
    try with_reducible rfl
  try simp only [Act.put, List.setIfInBounds_toArray, List.set_cons_zero, List.set_cons_succ]
  refine wpAnyH_done (by kernel_rfl) ?_ _
  have HB3 := Lib.hid (HB2.out.trans (hHeld.mono HB2.out.size))
  have hsz : w.heap.size ≤ w2.heap.size := HB2.out.size
  have HR : Hid (BinsR w.heap.size w9 v r) := Lib.hid (by
    obtain ⟨g, c, e1, e2, e3⟩ := hR
    exact ⟨g, c, e1, by have : w2.heap.size ≤ g := e2; omega, e3⟩)
  clear hB hHeld hR
  go_wp2
  go_ret
  exact ⟨⟨_, rfl, HR.out⟩, HB3.out⟩
end Go.Proofs.YtpanmfdbdgecaaaGreat.C
