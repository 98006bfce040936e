/- The sketch: Add. · The window: Add. · Configs that are right: in, parts, Right. -/
import Derived.Test.YtpanmfdbdgecaaaGreatY6
import Derived.Lib.AppendZeros
namespace Go.Proofs.YtpanmfdbdgecaaaGreat.C
open Go.RowKit
set_option linter.unusedVariables false
def SlZ : Array Value := (sltC ⟨QZ, 0, 0⟩).toArray
theorem slz_zero : (Tryz.prog.info? 195).map (fun i => (i.zero, i.size)) = some (some (.agg SlZ), 10) := by kernel_rfl
theorem slt_info : (Tryz.prog.info? 195).map (fun i => (i.zero, i.size, i.bytes)) = some (some (.agg SlZ), 10, 24) := by kernel_rfl
section
variable {P : Program} {ops : Array Oper} {a : Act} {w : World} {K : Act → World → Prop} {Q : Exit → Act → World → Prop} {E : Prop} {ty : TypeId} {pos : String} {after : Array Edge}
theorem step_buildSlice_one (d s : Nat) (t e : TypeId) (cs : Array Value) (n : Nat) (hx : a.tmps.getD s undef = .agg cs) (ht : P.underlying t = some (.slice e)) (hi : (P.info? e).map (·.size) = some n) (hz : ∃ z, (P.info? e).map (·.zero) = some (some z)) (h0 : 0 < n) (h1 : n ≤ 65536) (hn : cs.size = n)
    (h : K (a.put (some d) (.slice (some ⟨w.heap.size, 0, none⟩) 1 1)) (w.alloc (.cells cs e))) :
    if Region.wanted ⟨some d, .buildSlice t 1 #[(0, .tmp s)], ty, pos, after, none⟩ (yielded ops a.tmps) = true then Oper.wp P ⟨some d, .buildSlice t 1 #[(0, .tmp s)], ty, pos, after, none⟩ a w K Q else E := by
  rw [if_pos (by simp [Region.wanted])]
  have hx' : a.eval (.tmp s) = .agg cs := hx
  unfold Oper.wp execOp
  simp only [List.map_toArray, List.map_cons, List.map_nil, hx', Sem.run_bind, run_buildSlice_one t e cs n ht hi hz h0 h1 hn, Result.andThen_ok, Sem.run_pure]
  exact h
theorem step_append_run {dst : Option Nat} (s x : Nat) (t : TypeId) (vs vx r : Value) (w' : World) (hrun : (Builtin.append_ #[t, t] ty #[vs, vx]).run P w = .ok r w') (hs : a.tmps.getD s undef = vs) (hx : a.tmps.getD x undef = vx) (h : K (a.put dst r) w') :
    if Region.wanted ⟨dst, .call { callee := .builtin .append, args := #[.tmp s, .tmp x], argTypes := #[t, t] }, ty, pos, after, none⟩ (yielded ops a.tmps) = true then Oper.wp P ⟨dst, .call { callee := .builtin .append, args := #[.tmp s, .tmp x], argTypes := #[t, t] }, ty, pos, after, none⟩ a w K Q else E := by
  rw [if_pos (by simp [Region.wanted])]
  have hs' : a.eval (.tmp s) = vs := hs
  have hx' : a.eval (.tmp x) = vx := hx
  unfold Oper.wp
  simp [execOp, resolve, invoke, builtin, hs', hx', hrun, Result.andThen]
  exact h
end
theorem build_slt (a b c : Nat) (w : World) : (Instr.build 195 #[(0, .agg (pfx a b c))]).run Tryz.prog w = .ok (.agg (sltC ⟨pfx a b c, 0, 0⟩).toArray) w := run_build w 195 _ _ (by kernel_rfl)
set_option maxRecDepth 100000 in
set_option maxHeartbeats 4000000 in
theorem sketch_add_new (pb b room : Nat) (l : List Slt) (total m : Int) (p0 p1 p2 : Nat) (w : World) (h : SkAt w pb b l room total) (hok : ∀ x ∈ l, SltOk x) (hf : Flat Tryz.prog 65 (pfx p0 p1 p2)) (hl : l.length ≤ 65536) (hm : 0 ≤ m ∧ m ≤ 4611686018427387904) (hno : fndS l (pfx p0 p1 p2) l.length 0 = -1) (hlt : l.length < room) :
    Calls Tryz.prog 67 #[.pointer (some ⟨pb, 0, none⟩), .agg (pfx p0 p1 p2), .int .i64 m] w fun e w' => e = .returned (.agg (sltC ⟨pfx p0 p1 p2, addC 0 m, 0⟩).toArray) ∧ SkAt w' pb b (l ++ [⟨pfx p0 p1 p2, addC 0 m, 0⟩]) room (addC total m) ∧ Two pb b w w' := by
  have hps : (Tryz.prog.info? 65).map (·.size) = some (pfx p0 p1 p2).size := pf_size
  have HPS := Lib.hid hps
  have HH := Lib.hid h
  have hcf := fun (t : Int) (w' : World) (q : SkAt w' pb b l room t) => sketch_find pb b room l t (pfx p0 p1 p2) w' q hok hf rfl hl
  rw [hno] at hcf
  have HCF := Lib.hid hcf
  have hpo := pfx_ok p0 p1 p2
  have HPO := Lib.hid hpo
  have hbw0 : b < w.heap.size := by
    obtain ⟨C, hC, _⟩ := h.row
    exact (Array.getElem?_eq_some_iff.1 hC).1
  have CN := Lib.hid (num_count m)
  rw [cnt_in hm.1 hm.2] at CN
  have CA1 := Lib.hid (num_add total m)
  have CA2 := Lib.hid (num_add 0 m)
  obtain ⟨i0, hi, hz0, hz1, hz2⟩ := info_parts slt_info
  have Hi := Lib.hid hi
  have Hz0 := Lib.hid hz0
  have Hz1 := Lib.hid hz1
  clear hi hz0 hz1 hz2
  have hbs := build_slt p0 p1 p2
  obtain ⟨x0, hx0⟩ : ∃ x : Slt, (⟨pfx p0 p1 p2, 0, 0⟩ : Slt) = x := ⟨_, rfl⟩
  have hx0k : SltOk x0 := by rw [← hx0]; exact ⟨hf, rfl, by kernel_rfl⟩
  rw [hx0] at hbs
  have HBS := Lib.hid hbs
  have hx0c : x0.count = 0 := by rw [← hx0]
  rw [← hx0c] at CA2
  have HX0 := Lib.hid hx0
  have HX0L := Lib.hid (sltC_len hx0k)
  have hx0a : ∀ u ∈ sltC x0, u.oneCell' = true := fun u hu => Array.all_eq_true_iff_forall_mem.1 (sltC_all hx0k) u (by simpa using hu)
  have HX0A := Lib.hid hx0a
  have HX0P := Lib.hid hx0k.2
  have HOKC : Hid (∀ x ∈ l ++ [x0], SltOk x) := Lib.hid fun x hx => by
    rcases List.mem_append.1 hx with hx | hx
    · exact hok x hx
    · rw [List.mem_singleton.1 hx]
      exact hx0k
  have HX0C := Lib.hid hx0c
  clear hbs hx0 hx0k hx0c hx0a
  obtain ⟨SZ, hSZ⟩ : ∃ z, SlZ = z := ⟨_, rfl⟩
  have hsz := slz_zero
  have hszs : SZ.size = 10 := by rw [← hSZ]; rfl
  rw [hSZ] at hsz
  have HSZ := Lib.hid hsz
  have HSZS := Lib.hid hszs
  clear hps h hcf hpo hsz hszs hSZ hno
  generalize pfx p0 p1 p2 = p at *
  obtain ⟨t1, ht1⟩ : ∃ t, addC total m = t := ⟨_, rfl⟩
  rw [ht1] at CA1 ⊢
  clear ht1
  go_enter Tryz.func67, Tryz.ntmps67
  go_upto_region 1 with (first | ((with_reducible refine arm_box 4 1 65 p ?_ ?_); rfl; intro w1 HB1 HX1 HS1) | ((with_reducible refine arm_alloc 6 195 SZ 10 HSZ.out ?_); intro w2 HB2 HX2 HS2))
  have B2 := Lib.hid (HB1.out.trans (HB2.out.mono HB1.out.size))
  have P2 := Lib.hid (keep_block HB2.out HX1.out)
  have R2 := Lib.hid HX2.out
  have hrb := HB1.out.size
  clear HX1 HX2
  generalize w1.heap.size = rb at *
  have HNRB := Lib.hid (show rb ≠ b by omega)
  have hS2 := HH.out.below B2.out
  have k1 := hS2.cells.2.1
  have HS2' := Lib.hid hS2
  clear hS2
  go_wp2_with fail
  refine (CN.out _).mono ?_
  rintro e w3 ⟨rfl, rfl⟩
  go_wp2_with fail
  refine (CA1.out w3.heap.size _ (new_c0 w3 _ _ 2) (new_c1 w3 _ _ 2)).mono ?_
  rintro e w4 ⟨rfl, rfl⟩
  have hb4 : Below w3.heap.size w3 (w3.alloc (.cells #[.int .i64 total, .int .i64 m] 2)) := (Below.refl _ _).alloc (Nat.le_refl _) _
  have hS4 := HS2'.out.below hb4
  have P4 := Lib.hid (keep_block hb4 P2.out)
  have R4 := Lib.hid (keep_block hb4 R2.out)
  have B4 := Lib.hid (B2.out.trans (hb4.mono B2.out.size))
  obtain ⟨_, k1', ff⟩ := hS4.cells
  have f1 := ff 1
  have HS4 := Lib.hid hS4
  clear hS4 hb4 k1 ff HS2' P2 R2 B2 CN CA1
  generalize w3.alloc (.cells #[.int .i64 total, .int .i64 m] 2) = w4 at *
  have n1 := ne_ty P4.out HS4.out.ptr (by decide)
  have n2 := ne_ty R4.out HS4.out.ptr (by decide)
  have hS5 := HS4.out.setTotal t1
  have hP5 : (w4.setCell ⟨pb, 1, none⟩ (.int .i64 t1)).heap[w.heap.size]? = some (.cells p 65 (0, 0)) := (heap_setCell_other _ _ _ _ n1).trans P4.out
  have hR5 : (w4.setCell ⟨pb, 1, none⟩ (.int .i64 t1)).heap[rb]? = some (.cells SZ 195 (0, 0)) := (heap_setCell_other _ _ _ _ n2).trans R4.out
  have hB5 := Two.setCell (g := pb) (h := b) (x := ⟨pb, 1, none⟩) (two_ofB B4.out) (.inl rfl) (.int .i64 t1)
  go_upto_region 5 with (fail)
  clear P4 R4 B4 HS4 k1' f1
  generalize w4.setCell ⟨pb, 1, none⟩ (.int .i64 t1) = w5 at *
  have hld := box_load (t := 65) hP5 _ Tryz.underlying65 rfl HPS.out
  have CF := Lib.hid (HCF.out t1 w5 hS5)
  have HS5 := Lib.hid hS5
  have HP5 := Lib.hid hP5
  have HR5 := Lib.hid hR5
  have HB5 := Lib.hid hB5
  clear hS5 hP5 hR5 hB5
  go_wp2_with ((with_reducible refine arm_load 24 4 65 _ _ hld ?_ ?_); rfl)
  refine CF.out.mono ?_
  rintro e w6 ⟨rfl, hb6⟩
  have hS6 := HS5.out.below hb6
  have hP6 := keep_block hb6 HP5.out
  have hR6 := keep_block hb6 HR5.out
  have hB6 := HB5.out.trans (two_ofB hb6)
  clear hld CF HS5 HP5 HR5 HB5 hb6
  have k0 := hS6.cells.1
  obtain ⟨n, hn⟩ : ∃ n, l.length = n := ⟨_, rfl⟩
  have HN := Lib.hid hn
  rw [hn] at k0 hlt hl
  clear hn
  have hltI : (n : Int) < (room : Int) := by omega
  have HS6 := Lib.hid hS6
  have HP6 := Lib.hid hP6
  have HR6 := Lib.hid hR6
  have HB6 := Lib.hid hB6
  clear hS6 hP6 hR6 hB6
  go_wp2_with fail
  go_region
  go_upto_region 11 with (fail)
  have HS7 := Lib.hid HS6.out.drew
  have HP7 : Hid (w6.drew.heap[w.heap.size]? = _) := Lib.hid HP6.out
  have HR7 : Hid (w6.drew.heap[rb]? = _) := Lib.hid HR6.out
  have HB7 := Lib.hid (HB6.out.drewN 1)
  change Code.wp _ _ _ _ w6.drew
  have HB7' : Hid (Two pb b w w6.drew) := HB7
  clear HS6 HP6 HR6 HB6 HB7 k0
  generalize w6.drew = w7 at *
  have hS8 := HS7.out.drew
  have hP8 : w7.drew.heap[w.heap.size]? = some (.cells p 65 (0, 0)) := HP7.out
  have hR8 : w7.drew.heap[rb]? = some (.cells SZ 195 (0, 0)) := HR7.out
  have hB8 : Two pb b w w7.drew := HB7'.out.drewN 1
  have np1 := ne_ty HP7.out HS7.out.ptr (by decide)
  have np2 : w.heap.size ≠ b := by omega
  have HL11 : Hid (∀ w', Two pb b w7 w' → (Instr.loadAt 65 (.pointer (some ⟨w.heap.size, 0, none⟩))).run Tryz.prog w' = .ok (.agg p) w') := Lib.hid fun w' q => box_load (t := 65) ((q.block _ (Array.getElem?_eq_some_iff.1 HP7.out).1 np1 np2).trans HP7.out) _ Tryz.underlying65 rfl HPS.out
  refine wp_region_held_drew (S := Two pb b w7) (by kernel_rfl) ((Two.refl pb b w7).drewN 1) (fun hHeld => ?_)
  clear HS7 HP7 HR7 HB7' np1 np2
  generalize w7.drew = w8 at *
  have k0 := hS8.cells.1
  rw [HN.out] at k0
  have hld := box_load (t := 65) hP8 _ Tryz.underlying65 rfl HPS.out
  have hbl := HBS.out w8
  have hb9 : Below w8.heap.size w8 (w8.alloc (.cells (sltC x0).toArray 195)) := (Below.refl _ _).alloc (Nat.le_refl _) _
  have hS9 := hS8.below hb9
  have HR9 := Lib.hid (keep_block hb9 hR8)
  have HB9 := Lib.hid (hB8.trans (two_ofB hb9))
  obtain ⟨C9, hC9, hC9s, _⟩ := hS9.row
  have hth := there_of_block (o := n * 10) (n := 10) hC9 (by rw [hC9s]; omega)
  have hr := run_append_room_cells (P := Tryz.prog) (w8.alloc (.cells (sltC x0).toArray 195)) 267 267 195 i0 Tryz.underlying267 Hi.out b 0 n room ⟨w8.heap.size, 0, none⟩ 1 1 (sltC x0) (by rw [HX0L.out, Hz1.out]) (fun j u hu => by rw [OW.addr_off, Nat.zero_add, cell_of_row _ _ _ _ _ _ (Go.heap_alloc_new w8 _), List.getElem?_toArray]; exact hu) HX0A.out (by omega) (fun j hj => by rw [HX0L.out] at hj; rw [Hz1.out, Nat.zero_add]; exact (hth j hj).1) (fun j hj => by rw [HX0L.out] at hj; rw [Hz1.out, Nat.zero_add]; exact (hth j hj).2)
  rw [Hz1.out, Nat.zero_add] at hr
  have hpu := hS9.push (by rw [HN.out]; exact hlt) x0 HX0P.out
  rw [HN.out] at hpu
  have hne := hS9.ne
  have hnr := ne_ty HR9.out hS9.ptr (by decide)
  have k09 := hS9.cells.1
  have f09 := hS9.cells.2.2 0
  rw [HN.out] at k09
  have hbw := (Array.getElem?_eq_some_iff.1 hC9).1
  have hk10 : ((w8.alloc (.cells (sltC x0).toArray 195)).setCells b (n * 10) (sltC x0)).cell? ⟨pb, 0, none⟩ = some (.slice (some ⟨b, 0, none⟩) n room) := by
    rw [World.cell?_of_block (heap_setCells_other (sltC x0) (n * 10) _ b pb hne)]
    exact k09
  have hf10 : ((w8.alloc (.cells (sltC x0).toArray 195)).setCells b (n * 10) (sltC x0)).frozen? ⟨pb, 0, none⟩ = false := frozen_of_row _ _ _ _ _ ((heap_setCells_other (sltC x0) (n * 10) _ b pb hne).trans hS9.ptr)
  have hnrb := HNRB.out
  have hR10 : (((w8.alloc (.cells (sltC x0).toArray 195)).setCells b (n * 10) (sltC x0)).setCell ⟨pb, 0, none⟩ (.slice (some ⟨b, 0, none⟩) (n + 1) room)).heap[rb]? = some (.cells SZ 195 (0, 0)) := (heap_setCell_other _ _ _ _ hnr).trans ((heap_setCells_other _ _ _ _ _ hnrb).trans HR9.out)
  have hB10 := Two.setCell (g := pb) (h := b) (x := ⟨pb, 0, none⟩) (Two.setCells (g := pb) (h := b) (b := b) (.inr rfl) (sltC x0) (n * 10) HB9.out) (.inl rfl) (.slice (some ⟨b, 0, none⟩) (n + 1) room)
  clear hS8 hP8 hR8 hB8 hS9 HR9 HB9 hC9 hth hb9 hne hnr
  have HR := Lib.hid hr
  have HK10 := Lib.hid hk10
  have HF10 := Lib.hid hf10
  clear hld hbl hr hk10 hf10
  refine wpAnyH_take (i := 0) (oi := ⟨some 72, _, _, _, _, _⟩) (v := ?_) rfl (by kernel_rfl) (by kernel_rfl) (by kernel_rfl) (fun _ _ _ h => h) (Or.inl ⟨by rfl, ?_⟩) hHeld ?_
  rotate_left
  · intro w hSw
    go_simp
    try with_reducible rfl
  try simp only [Act.put, List.setIfInBounds_toArray, List.set_cons_zero, List.set_cons_succ]
  refine wpAnyH_take (i := 1) (oi := ⟨some 73, _, _, _, _, _⟩) (v := ?_) rfl (by kernel_rfl) (by kernel_rfl) (by kernel_rfl) (fun _ _ _ h => h) (Or.inl ⟨by rfl, ?_⟩) hHeld ?_
  rotate_left
  · intro w hSw
    go_simp
    try with_reducible rfl
  try simp only [Act.put, List.setIfInBounds_toArray, List.set_cons_zero, List.set_cons_succ]
  refine wpAnyH_take (i := 2) (oi := ⟨some 74, _, _, _, _, _⟩) (v := ?_) rfl (by kernel_rfl) (by kernel_rfl) (by kernel_rfl) (fun _ _ _ h => h) (Or.inl ⟨by rfl, ?_⟩) hHeld ?_
  rotate_left
  · intro w hSw
    go_simp
    try with_reducible rfl
  try simp only [Act.put, List.setIfInBounds_toArray, List.set_cons_zero, List.set_cons_succ]
  refine wpAnyH_take (i := 3) (oi := ⟨some 75, _, _, _, _, _⟩) (v := ?_) rfl (by kernel_rfl) (by kernel_rfl) (by kernel_rfl) (fun _ _ _ h => h) (Or.inl ⟨by rfl, ?_⟩) hHeld ?_
  rotate_left
  · intro w hSw
    go_simp
    try with_reducible rfl
  try simp only [Act.put, List.setIfInBounds_toArray, List.set_cons_zero, List.set_cons_succ]
  refine wpAnyH_take (i := 5) (oi := ⟨some 77, _, _, _, _, _⟩) (v := .agg p) rfl (by kernel_rfl) (by kernel_rfl) (by kernel_rfl) (fun _ _ _ h => h) (Or.inl ⟨by rfl, fun w hSw => exec_load rfl (HL11.out w hSw)⟩) hHeld ?_
  try simp only [Act.put, List.setIfInBounds_toArray, List.set_cons_zero, List.set_cons_succ]
  refine wpAnyH_take (i := 6) (oi := ⟨some 78, _, _, _, _, _⟩) (v := .agg (sltC x0).toArray) rfl (by kernel_rfl) (by kernel_rfl) (by kernel_rfl) (fun _ _ _ h => h) (Or.inl ⟨by rfl, fun w hSw => exec_build (vals := #[(0, .agg p)]) (by simp [Act.eval]) (HBS.out w)⟩) hHeld ?_
  try simp only [Act.put, List.setIfInBounds_toArray, List.set_cons_zero, List.set_cons_succ]
  refine wpAnyH_ready (rs := [4, 7]) (by kernel_rfl) (by simp) ?_
  refine AllReadyH.cons rfl (fun K hK => ?_) (AllReadyH.cons rfl (fun K hK => ?_) AllReadyH.nil)
  · skip
    go_simp
    refine hK.out _ _ (hHeld) (fun hHeld => ?_)
    clear hK K
    refine wpAnyH_ready (rs := [7]) (by kernel_rfl) (by simp) ?_
    refine AllReadyH.cons rfl (fun K hK => ?_) AllReadyH.nil
    refine step_buildSlice_one 79 78 267 195 (sltC x0).toArray 10 rfl Tryz.underlying267 slt_size ⟨.agg SlZ, by rw [Hi.out]; simp [Hz0.out]⟩ (by omega) (by omega) (by rw [List.size_toArray]; exact HX0L.out) ?_
    refine hK.out _ _ (two_next hHeld ((Below.refl _ _).alloc (Nat.le_refl _) _)) (fun hHeld => ?_)
    clear hK K
    refine wpAnyH_ready (rs := [8]) (by kernel_rfl) (by simp) ?_
    refine AllReadyH.cons rfl (fun K hK => ?_) AllReadyH.nil
    refine step_append_run 76 79 267 _ _ _ _ HR.out rfl rfl ?_
    refine hK.out _ _ (Two.setCells (.inr rfl) _ _ hHeld) (fun hHeld => ?_)
    clear hK K
    refine wpAnyH_take (i := 9) (oi := ⟨some 81, _, _, _, _, _⟩) (v := ?_) rfl (by kernel_rfl) (by kernel_rfl) (by kernel_rfl) (fun _ _ _ h => h) (Or.inl ⟨by rfl, ?_⟩) hHeld ?_
    rotate_left
    · intro w hSw
      go_simp
      try with_reducible rfl
    try simp only [Act.put, List.setIfInBounds_toArray, List.set_cons_zero, List.set_cons_succ]
    refine wpAnyH_take (i := 10) (oi := ⟨some 82, _, _, _, _, _⟩) (v := ?_) rfl (by kernel_rfl) (by kernel_rfl) (by kernel_rfl) (fun _ _ _ h => h) (Or.inl ⟨by rfl, ?_⟩) hHeld ?_
    rotate_left
    · intro w hSw
      go_simp
      try with_reducible rfl
    try simp only [Act.put, List.setIfInBounds_toArray, List.set_cons_zero, List.set_cons_succ]
    have hk10 := HK10.out
    have hf10 := HF10.out
    refine wpAnyH_ready (rs := [11]) (by kernel_rfl) (by simp) ?_
    refine AllReadyH.cons rfl (fun K hK => ?_) AllReadyH.nil
    go_simp
    refine hK.out _ _ (hHeld.setCell (x := ⟨pb, 0, none⟩) (.inl rfl) _) (fun hHeld => ?_)
    clear hK K
    refine wpAnyH_done (by kernel_rfl) ?_ _
    generalize ((w8.alloc (.cells (sltC x0).toArray 195)).setCells b (n * 10) (sltC x0)).setCell ⟨pb, 0, none⟩ (.slice (some ⟨b, 0, none⟩) (n + 1) room) = wC at *
    have HSC := Lib.hid hpu
    have HBC := Lib.hid hB10
    have HRC := Lib.hid hR10
    clear hpu hB10 hR10
    have hxc : (l ++ [x0])[n]? = some x0 := by rw [← HN.out]; simp
    have hlc : (l ++ [x0]).length = n + 1 := by rw [List.length_append, HN.out]; rfl
    have HXC := Lib.hid hxc
    have HLC := Lib.hid hlc
    have hin : (n : Int) < (n : Int) + 1 := by omega
    clear hxc hlc
    have HL12 : Hid (∀ w', Two b b wC w' → w'.cell? ⟨pb, 0, none⟩ = some (.slice (some ⟨b, 0, none⟩) (n + 1) room)) := Lib.hid fun w' q => by
      have := cells_of_row ((q.block pb (Array.getElem?_eq_some_iff.1 HSC.out.ptr).1 HSC.out.ne HSC.out.ne).trans HSC.out.ptr) 0 _ rfl
      rw [HLC.out] at this
      exact this
    have hSD := HSC.out.drew
    have hBD : Two pb b w wC.drew := HBC.out.drewN 1
    have hRD : wC.drew.heap[rb]? = some (.cells SZ 195 (0, 0)) := HRC.out
    go_wp2_with fail
    refine wp_region_held_drew (S := Two b b wC) (by kernel_rfl) ((Two.refl b b wC).drewN 1) (fun hHeld => ?_)
    clear HSC HBC HRC
    generalize wC.drew = wD at *
    obtain ⟨k8, ff⟩ := hSD.count HXC.out
    have HSD := Lib.hid hSD
    have HBD := Lib.hid hBD
    have HRD := Lib.hid hRD
    clear hSD hBD hRD ff
    refine wpAnyH_take (i := 0) (oi := ⟨some 83, _, _, _, _, _⟩) (v := ?_) rfl (by kernel_rfl) (by kernel_rfl) (by kernel_rfl) (fun _ _ _ h => h) (Or.inl ⟨by rfl, ?_⟩) hHeld ?_
    rotate_left
    · intro w hSw
      go_simp
      try with_reducible rfl
    try simp only [Act.put, List.setIfInBounds_toArray, List.set_cons_zero, List.set_cons_succ]
    refine wpAnyH_take (i := 1) (oi := ⟨some 84, _, _, _, _, _⟩) (v := ?_) rfl (by kernel_rfl) (by kernel_rfl) (by kernel_rfl) (fun _ _ _ h => h) (Or.inl ⟨by rfl, ?_⟩) hHeld ?_
    rotate_left
    · intro w hSw
      go_simp
      try with_reducible rfl
    try simp only [Act.put, List.setIfInBounds_toArray, List.set_cons_zero, List.set_cons_succ]
    refine wpAnyH_take (i := 2) (oi := ⟨some 85, _, _, _, _, _⟩) (v := ?_) rfl (by kernel_rfl) (by kernel_rfl) (by kernel_rfl) (fun _ _ _ h => h) (Or.inl ⟨by rfl, ?_⟩) hHeld ?_
    rotate_left
    · intro w hSw
      go_simp
      try with_reducible rfl
    try simp only [Act.put, List.setIfInBounds_toArray, List.set_cons_zero, List.set_cons_succ]
    refine wpAnyH_take (i := 3) (oi := ⟨some 86, _, _, _, _, _⟩) (v := ?_) rfl (by kernel_rfl) (by kernel_rfl) (by kernel_rfl) (fun _ _ _ h => h) (Or.inl ⟨by rfl, ?_⟩) hHeld ?_
    rotate_left
    · intro w hSw
      obtain k0 := HL12.out w hSw
      go_simp
      try with_reducible rfl
    try simp only [Act.put, List.setIfInBounds_toArray, List.set_cons_zero, List.set_cons_succ]
    refine wpAnyH_take (i := 4) (oi := ⟨some 87, _, _, _, _, _⟩) (v := ?_) rfl (by kernel_rfl) (by kernel_rfl) (by kernel_rfl) (fun _ _ _ h => h) (Or.inl ⟨by rfl, ?_⟩) hHeld ?_
    rotate_left
    · intro w hSw
      go_simp
      try with_reducible rfl
    try simp only [Act.put, List.setIfInBounds_toArray, List.set_cons_zero, List.set_cons_succ]
    refine wpAnyH_take (i := 5) (oi := ⟨some 88, _, _, _, _, _⟩) (v := ?_) rfl (by kernel_rfl) (by kernel_rfl) (by kernel_rfl) (fun _ _ _ h => h) (Or.inl ⟨by rfl, ?_⟩) hHeld ?_
    rotate_left
    · intro w hSw
      go_simp
      try with_reducible rfl
    try simp only [Act.put, List.setIfInBounds_toArray, List.set_cons_zero, List.set_cons_succ]
    refine wpAnyH_take (i := 6) (oi := ⟨some 89, _, _, _, _, _⟩) (v := ?_) rfl (by kernel_rfl) (by kernel_rfl) (by kernel_rfl) (fun _ _ _ h => h) (Or.inl ⟨by rfl, ?_⟩) hHeld ?_
    rotate_left
    · intro w hSw
      go_simp
      try with_reducible rfl
    try simp only [Act.put, List.setIfInBounds_toArray, List.set_cons_zero, List.set_cons_succ]
    refine wpAnyH_take (i := 7) (oi := ⟨some 90, _, _, _, _, _⟩) (v := ?_) rfl (by kernel_rfl) (by kernel_rfl) (by kernel_rfl) (fun _ _ _ h => h) (Or.inl ⟨by rfl, ?_⟩) hHeld ?_
    rotate_left
    · intro w hSw
      go_simp
      try with_reducible rfl
    try simp only [Act.put, List.setIfInBounds_toArray, List.set_cons_zero, List.set_cons_succ]
    refine wpAnyH_take (i := 8) (oi := ⟨some 91, _, _, _, _, _⟩) (v := ?_) rfl (by kernel_rfl) (by kernel_rfl) (by kernel_rfl) (fun _ _ _ h => h) (Or.inl ⟨by rfl, ?_⟩) hHeld ?_
    rotate_left
    · intro w hSw
      obtain k0 := HL12.out w hSw
      go_simp
      try with_reducible rfl
    try simp only [Act.put, List.setIfInBounds_toArray, List.set_cons_zero, List.set_cons_succ]
    refine wpAnyH_take (i := 9) (oi := ⟨some 92, _, _, _, _, _⟩) (v := ?_) rfl (by kernel_rfl) (by kernel_rfl) (by kernel_rfl) (fun _ _ _ h => h) (Or.inl ⟨by rfl, ?_⟩) hHeld ?_
    rotate_left
    · intro w hSw
      go_simp
      try with_reducible rfl
    try simp only [Act.put, List.setIfInBounds_toArray, List.set_cons_zero, List.set_cons_succ]
    refine wpAnyH_take (i := 10) (oi := ⟨some 93, _, _, _, _, _⟩) (v := ?_) rfl (by kernel_rfl) (by kernel_rfl) (by kernel_rfl) (fun _ _ _ h => h) (Or.inl ⟨by rfl, ?_⟩) hHeld ?_
    rotate_left
    · intro w hSw
      go_simp
      try with_reducible rfl
    try simp only [Act.put, List.setIfInBounds_toArray, List.set_cons_zero, List.set_cons_succ]
    refine wpAnyH_take (i := 11) (oi := ⟨some 94, _, _, _, _, _⟩) (v := ?_) rfl (by kernel_rfl) (by kernel_rfl) (by kernel_rfl) (fun _ _ _ h => h) (Or.inl ⟨by rfl, ?_⟩) hHeld ?_
    rotate_left
    · intro w hSw
      go_simp
      try with_reducible rfl
    try simp only [Act.put, List.setIfInBounds_toArray, List.set_cons_zero, List.set_cons_succ]
    refine wpAnyH_take (i := 13) (oi := ⟨some 96, _, _, _, _, _⟩) (v := ?_) rfl (by kernel_rfl) (by kernel_rfl) (by kernel_rfl) (fun _ _ _ h => h) (Or.inl ⟨by rfl, ?_⟩) hHeld ?_
    rotate_left
    · intro w hSw
      go_simp
      try with_reducible rfl
    try simp only [Act.put, List.setIfInBounds_toArray, List.set_cons_zero, List.set_cons_succ]
    refine wpAnyH_ready (rs := [12]) (by kernel_rfl) (by simp) ?_
    refine AllReadyH.cons rfl (fun K hK => ?_) AllReadyH.nil
    go_simp
    refine hK.out _ _ (hHeld) (fun hHeld => ?_)
    clear hK K
    refine wpAnyH_ready (rs := [14]) (by kernel_rfl) (by simp) ?_
    refine AllReadyH.cons rfl (fun K hK => ?_) AllReadyH.nil
    go_simp
    refine hK.out _ _ (two_next hHeld ((Below.refl _ _).alloc (Nat.le_refl _) _)) (fun hHeld => ?_)
    clear hK K
    refine wpAnyH_ready (rs := [15]) (by kernel_rfl) (by simp) ?_
    refine AllReadyH.cons rfl (fun K hK => ?_) AllReadyH.nil
    go_simp
    go_wp2_with (go_at_call 51; go_must (refine (CA2.out wD.heap.size _ (new_c0 wD _ _ 2) (new_c1 wD _ _ 2)).mono ?_; rintro e w15 ⟨rfl, rfl⟩))
    refine hK.out _ _ (hHeld) (fun hHeld => ?_)
    clear hK K
    refine wpAnyH_take (i := 16) (oi := ⟨some 99, _, _, _, _, _⟩) (v := ?_) rfl (by kernel_rfl) (by kernel_rfl) (by kernel_rfl) (fun _ _ _ h => h) (Or.inl ⟨by rfl, ?_⟩) hHeld ?_
    rotate_left
    · intro w hSw
      go_simp
      try with_reducible rfl
    try simp only [Act.put, List.setIfInBounds_toArray, List.set_cons_zero, List.set_cons_succ]
    refine wpAnyH_take (i := 17) (oi := ⟨some 100, _, _, _, _, _⟩) (v := ?_) rfl (by kernel_rfl) (by kernel_rfl) (by kernel_rfl) (fun _ _ _ h => h) (Or.inl ⟨by rfl, ?_⟩) hHeld ?_
    rotate_left
    · intro w hSw
      go_simp
      try with_reducible rfl
    try simp only [Act.put, List.setIfInBounds_toArray, List.set_cons_zero, List.set_cons_succ]
    have hbE : Below wD.heap.size wD (wD.alloc (.cells #[.int .i64 x0.count, .int .i64 m] 2)) := (Below.refl _ _).alloc (Nat.le_refl _) _
    have hSE := HSD.out.below hbE
    have HRE := Lib.hid (keep_block hbE HRD.out)
    have HBE := Lib.hid (HBD.out.trans (two_ofB hbE))
    obtain ⟨q8, qf⟩ := hSE.count HXC.out
    have g8 := qf (n * 10 + 8)
    have HSE := Lib.hid hSE
    clear hSE qf hbE k8
    generalize wD.alloc (.cells #[.int .i64 x0.count, .int .i64 m] 2) = wE at *
    refine wpAnyH_ready (rs := [18]) (by kernel_rfl) (by simp) ?_
    refine AllReadyH.cons rfl (fun K hK => ?_) AllReadyH.nil
    go_simp
    refine hK.out _ _ (hHeld.setCell (x := ⟨b, n * 10 + 8, none⟩) (.inl rfl) _) (fun hHeld => ?_)
    clear hK K
    refine wpAnyH_done (by kernel_rfl) ?_ _
    have hS6 := HSE.out.setCount HXC.out (addC x0.count m)
    have hB6 := HBE.out.setCell (x := ⟨b, n * 10 + 8, none⟩) (.inr rfl) (.int .i64 (addC x0.count m))
    have hR6 : (wE.setCell ⟨b, n * 10 + 8, none⟩ (.int .i64 (addC x0.count m))).heap[rb]? = some (.cells SZ 195 (0, 0)) := (heap_setCell_other _ _ _ _ HNRB.out).trans HRE.out
    generalize hac : addC x0.count m = ac at *
    clear HSE HBE HRE q8 g8 hHeld HL12
    generalize wE.setCell ⟨b, n * 10 + 8, none⟩ (.int .i64 ac) = w9 at *
    obtain ⟨l9, hl9⟩ : ∃ l9, (l ++ [x0]).set n ⟨x0.p, ac, x0.err⟩ = l9 := ⟨_, rfl⟩
    have hx9 : l9[n]? = some ⟨x0.p, ac, x0.err⟩ := by rw [← hl9]; exact List.getElem?_set_self (by rw [HLC.out]; omega)
    have hln9 : l9.length = n + 1 := by rw [← hl9, List.length_set]; exact HLC.out
    have hok9 : ∀ x ∈ l9, SltOk x := by
      intro x hx
      rw [← hl9] at hx
      rcases List.mem_or_eq_of_mem_set hx with hx | rfl
      · exact HOKC.out x hx
      · exact HOKC.out x0 (List.mem_of_getElem? HXC.out)
    rw [hl9] at hS6
    have k0 := hS6.cells.1
    rw [hln9] at k0
    have hlx := hS6.load hok9 hx9
    have hoy := hok9 _ (List.mem_of_getElem? hx9)
    have hya := sltC_all hoy
    have hyl : (sltC (⟨x0.p, ac, x0.err⟩ : Slt)).toArray.size = 10 := by rw [List.size_toArray]; exact sltC_len hoy
    have hys : (Tryz.prog.info? 195).map (·.size) = some (sltC (⟨x0.p, ac, x0.err⟩ : Slt)).toArray.size := by rw [hyl]; exact slt_size
    have hst := box_store (t := 195) hR6 hys hya (HSZS.out.trans hyl.symm)
    have hbx := box_whole (cs := (sltC (⟨x0.p, ac, x0.err⟩ : Slt)).toArray) hR6 (hyl.trans HSZS.out.symm)
    obtain ⟨C9, hC9, hC9s, hC9r⟩ := hS6.row
    have hnp := ne_ty hS6.ptr hR6 (by decide)
    have hS9 : SkAt (w9.setCells rb 0 (sltC (⟨x0.p, ac, x0.err⟩ : Slt)).toArray.toList) pb b l9 room t1 := ⟨(heap_setCells_other _ _ _ _ _ hnp).trans hS6.ptr, ⟨C9, (heap_setCells_other _ _ _ _ _ HNRB.out.symm).trans hC9, hC9s, hC9r⟩, hS6.len, hS6.pre⟩
    have hB9 := hB6.newCells hrb (sltC (⟨x0.p, ac, x0.err⟩ : Slt)).toArray.toList 0
    have HBX := Lib.hid hbx
    have HS9 := Lib.hid hS9
    have HB9 := Lib.hid hB9
    have HYS := Lib.hid hys
    have HL9 := Lib.hid hl9
    have HAC := Lib.hid hac
    clear hC9r hC9 hbx hS9 hB9 hys hl9 hac hya hyl hoy hok9 hx9 hS6 hB6 hR6
    generalize hY : (sltC (⟨x0.p, ac, x0.err⟩ : Slt)).toArray = Y at *
    have HY := Lib.hid hY
    clear hY
    generalize World.setCells w9 rb 0 Y.toList = w10 at *
    go_wp2_with (first | ((with_reducible refine arm_load 107 106 195 _ _ hlx ?_ ?_); rfl) | ((with_reducible refine arm_store 6 107 195 _ _ _ hst ?_ ?_ ?_); rfl; rfl))
    refine bodyPost_ret (results_cell_row rfl _ _ _ _ _ _ _ rfl HBX.out Tryz.underlying195 rfl HYS.out) rfl ?_
    have hl9 := HL9.out
    have hac := HAC.out
    refine ⟨?_, ?_, HB9.out⟩
    · rw [← HY.out, ← HX0.out, ← HAC.out, HX0C.out]
    · have h9 := HS9.out
      rw [← HL9.out, ← HN.out, ← HAC.out, HX0C.out, List.set_append_right _ _ (Nat.le_refl _), Nat.sub_self] at h9
      rw [← HX0.out] at h9
      exact h9
  · skip
    refine step_buildSlice_one 79 78 267 195 (sltC x0).toArray 10 rfl Tryz.underlying267 slt_size ⟨.agg SlZ, by rw [Hi.out]; simp [Hz0.out]⟩ (by omega) (by omega) (by rw [List.size_toArray]; exact HX0L.out) ?_
    refine hK.out _ _ (two_next hHeld ((Below.refl _ _).alloc (Nat.le_refl _) _)) (fun hHeld => ?_)
    clear hK K
    refine wpAnyH_ready (rs := [4]) (by kernel_rfl) (by simp) ?_
    refine AllReadyH.cons rfl (fun K hK => ?_) AllReadyH.nil
    go_simp
    refine hK.out _ _ (hHeld) (fun hHeld => ?_)
    clear hK K
    refine wpAnyH_ready (rs := [8]) (by kernel_rfl) (by simp) ?_
    refine AllReadyH.cons rfl (fun K hK => ?_) AllReadyH.nil
    refine step_append_run 76 79 267 _ _ _ _ HR.out rfl rfl ?_
    refine hK.out _ _ (Two.setCells (.inr rfl) _ _ hHeld) (fun hHeld => ?_)
    clear hK K
    refine wpAnyH_take (i := 9) (oi := ⟨some 81, _, _, _, _, _⟩) (v := ?_) rfl (by kernel_rfl) (by kernel_rfl) (by kernel_rfl) (fun _ _ _ h => h) (Or.inl ⟨by rfl, ?_⟩) hHeld ?_
    rotate_left
    · intro w hSw
      go_simp
      try with_reducible rfl
    try simp only [Act.put, List.setIfInBounds_toArray, List.set_cons_zero, List.set_cons_succ]
    refine wpAnyH_take (i := 10) (oi := ⟨some 82, _, _, _, _, _⟩) (v := ?_) rfl (by kernel_rfl) (by kernel_rfl) (by kernel_rfl) (fun _ _ _ h => h) (Or.inl ⟨by rfl, ?_⟩) hHeld ?_
    rotate_left
    · intro w hSw
      go_simp
      try with_reducible rfl
    try simp only [Act.put, List.setIfInBounds_toArray, List.set_cons_zero, List.set_cons_succ]
    have hk10 := HK10.out
    have hf10 := HF10.out
    refine wpAnyH_ready (rs := [11]) (by kernel_rfl) (by simp) ?_
    refine AllReadyH.cons rfl (fun K hK => ?_) AllReadyH.nil
    go_simp
    refine hK.out _ _ (hHeld.setCell (x := ⟨pb, 0, none⟩) (.inl rfl) _) (fun hHeld => ?_)
    clear hK K
    refine wpAnyH_done (by kernel_rfl) ?_ _
    generalize ((w8.alloc (.cells (sltC x0).toArray 195)).setCells b (n * 10) (sltC x0)).setCell ⟨pb, 0, none⟩ (.slice (some ⟨b, 0, none⟩) (n + 1) room) = wC at *
    have HSC := Lib.hid hpu
    have HBC := Lib.hid hB10
    have HRC := Lib.hid hR10
    clear hpu hB10 hR10
    have hxc : (l ++ [x0])[n]? = some x0 := by rw [← HN.out]; simp
    have hlc : (l ++ [x0]).length = n + 1 := by rw [List.length_append, HN.out]; rfl
    have HXC := Lib.hid hxc
    have HLC := Lib.hid hlc
    have hin : (n : Int) < (n : Int) + 1 := by omega
    clear hxc hlc
    have HL12 : Hid (∀ w', Two b b wC w' → w'.cell? ⟨pb, 0, none⟩ = some (.slice (some ⟨b, 0, none⟩) (n + 1) room)) := Lib.hid fun w' q => by
      have := cells_of_row ((q.block pb (Array.getElem?_eq_some_iff.1 HSC.out.ptr).1 HSC.out.ne HSC.out.ne).trans HSC.out.ptr) 0 _ rfl
      rw [HLC.out] at this
      exact this
    have hSD := HSC.out.drew
    have hBD : Two pb b w wC.drew := HBC.out.drewN 1
    have hRD : wC.drew.heap[rb]? = some (.cells SZ 195 (0, 0)) := HRC.out
    go_wp2_with fail
    refine wp_region_held_drew (S := Two b b wC) (by kernel_rfl) ((Two.refl b b wC).drewN 1) (fun hHeld => ?_)
    clear HSC HBC HRC
    generalize wC.drew = wD at *
    obtain ⟨k8, ff⟩ := hSD.count HXC.out
    have HSD := Lib.hid hSD
    have HBD := Lib.hid hBD
    have HRD := Lib.hid hRD
    clear hSD hBD hRD ff
    refine wpAnyH_take (i := 0) (oi := ⟨some 83, _, _, _, _, _⟩) (v := ?_) rfl (by kernel_rfl) (by kernel_rfl) (by kernel_rfl) (fun _ _ _ h => h) (Or.inl ⟨by rfl, ?_⟩) hHeld ?_
    rotate_left
    · intro w hSw
      go_simp
      try with_reducible rfl
    try simp only [Act.put, List.setIfInBounds_toArray, List.set_cons_zero, List.set_cons_succ]
    refine wpAnyH_take (i := 1) (oi := ⟨some 84, _, _, _, _, _⟩) (v := ?_) rfl (by kernel_rfl) (by kernel_rfl) (by kernel_rfl) (fun _ _ _ h => h) (Or.inl ⟨by rfl, ?_⟩) hHeld ?_
    rotate_left
    · intro w hSw
      go_simp
      try with_reducible rfl
    try simp only [Act.put, List.setIfInBounds_toArray, List.set_cons_zero, List.set_cons_succ]
    refine wpAnyH_take (i := 2) (oi := ⟨some 85, _, _, _, _, _⟩) (v := ?_) rfl (by kernel_rfl) (by kernel_rfl) (by kernel_rfl) (fun _ _ _ h => h) (Or.inl ⟨by rfl, ?_⟩) hHeld ?_
    rotate_left
    · intro w hSw
      go_simp
      try with_reducible rfl
    try simp only [Act.put, List.setIfInBounds_toArray, List.set_cons_zero, List.set_cons_succ]
    refine wpAnyH_take (i := 3) (oi := ⟨some 86, _, _, _, _, _⟩) (v := ?_) rfl (by kernel_rfl) (by kernel_rfl) (by kernel_rfl) (fun _ _ _ h => h) (Or.inl ⟨by rfl, ?_⟩) hHeld ?_
    rotate_left
    · intro w hSw
      obtain k0 := HL12.out w hSw
      go_simp
      try with_reducible rfl
    try simp only [Act.put, List.setIfInBounds_toArray, List.set_cons_zero, List.set_cons_succ]
    refine wpAnyH_take (i := 4) (oi := ⟨some 87, _, _, _, _, _⟩) (v := ?_) rfl (by kernel_rfl) (by kernel_rfl) (by kernel_rfl) (fun _ _ _ h => h) (Or.inl ⟨by rfl, ?_⟩) hHeld ?_
    rotate_left
    · intro w hSw
      go_simp
      try with_reducible rfl
    try simp only [Act.put, List.setIfInBounds_toArray, List.set_cons_zero, List.set_cons_succ]
    refine wpAnyH_take (i := 5) (oi := ⟨some 88, _, _, _, _, _⟩) (v := ?_) rfl (by kernel_rfl) (by kernel_rfl) (by kernel_rfl) (fun _ _ _ h => h) (Or.inl ⟨by rfl, ?_⟩) hHeld ?_
    rotate_left
    · intro w hSw
      go_simp
      try with_reducible rfl
    try simp only [Act.put, List.setIfInBounds_toArray, List.set_cons_zero, List.set_cons_succ]
    refine wpAnyH_take (i := 6) (oi := ⟨some 89, _, _, _, _, _⟩) (v := ?_) rfl (by kernel_rfl) (by kernel_rfl) (by kernel_rfl) (fun _ _ _ h => h) (Or.inl ⟨by rfl, ?_⟩) hHeld ?_
    rotate_left
    · intro w hSw
      go_simp
      try with_reducible rfl
    try simp only [Act.put, List.setIfInBounds_toArray, List.set_cons_zero, List.set_cons_succ]
    refine wpAnyH_take (i := 7) (oi := ⟨some 90, _, _, _, _, _⟩) (v := ?_) rfl (by kernel_rfl) (by kernel_rfl) (by kernel_rfl) (fun _ _ _ h => h) (Or.inl ⟨by rfl, ?_⟩) hHeld ?_
    rotate_left
    · intro w hSw
      go_simp
      try with_reducible rfl
    try simp only [Act.put, List.setIfInBounds_toArray, List.set_cons_zero, List.set_cons_succ]
    refine wpAnyH_take (i := 8) (oi := ⟨some 91, _, _, _, _, _⟩) (v := ?_) rfl (by kernel_rfl) (by kernel_rfl) (by kernel_rfl) (fun _ _ _ h => h) (Or.inl ⟨by rfl, ?_⟩) hHeld ?_
    rotate_left
    · intro w hSw
      obtain k0 := HL12.out w hSw
      go_simp
      try with_reducible rfl
    try simp only [Act.put, List.setIfInBounds_toArray, List.set_cons_zero, List.set_cons_succ]
    refine wpAnyH_take (i := 9) (oi := ⟨some 92, _, _, _, _, _⟩) (v := ?_) rfl (by kernel_rfl) (by kernel_rfl) (by kernel_rfl) (fun _ _ _ h => h) (Or.inl ⟨by rfl, ?_⟩) hHeld ?_
    rotate_left
    · intro w hSw
      go_simp
      try with_reducible rfl
    try simp only [Act.put, List.setIfInBounds_toArray, List.set_cons_zero, List.set_cons_succ]
    refine wpAnyH_take (i := 10) (oi := ⟨some 93, _, _, _, _, _⟩) (v := ?_) rfl (by kernel_rfl) (by kernel_rfl) (by kernel_rfl) (fun _ _ _ h => h) (Or.inl ⟨by rfl, ?_⟩) hHeld ?_
    rotate_left
    · intro w hSw
      go_simp
      try with_reducible rfl
    try simp only [Act.put, List.setIfInBounds_toArray, List.set_cons_zero, List.set_cons_succ]
    refine wpAnyH_take (i := 11) (oi := ⟨some 94, _, _, _, _, _⟩) (v := ?_) rfl (by kernel_rfl) (by kernel_rfl) (by kernel_rfl) (fun _ _ _ h => h) (Or.inl ⟨by rfl, ?_⟩) hHeld ?_
    rotate_left
    · intro w hSw
      go_simp
      try with_reducible rfl
    try simp only [Act.put, List.setIfInBounds_toArray, List.set_cons_zero, List.set_cons_succ]
    refine wpAnyH_take (i := 13) (oi := ⟨some 96, _, _, _, _, _⟩) (v := ?_) rfl (by kernel_rfl) (by kernel_rfl) (by kernel_rfl) (fun _ _ _ h => h) (Or.inl ⟨by rfl, ?_⟩) hHeld ?_
    rotate_left
    · intro w hSw
      go_simp
      try with_reducible rfl
    try simp only [Act.put, List.setIfInBounds_toArray, List.set_cons_zero, List.set_cons_succ]
    refine wpAnyH_ready (rs := [12]) (by kernel_rfl) (by simp) ?_
    refine AllReadyH.cons rfl (fun K hK => ?_) AllReadyH.nil
    go_simp
    refine hK.out _ _ (hHeld) (fun hHeld => ?_)
    clear hK K
    refine wpAnyH_ready (rs := [14]) (by kernel_rfl) (by simp) ?_
    refine AllReadyH.cons rfl (fun K hK => ?_) AllReadyH.nil
    go_simp
    refine hK.out _ _ (two_next hHeld ((Below.refl _ _).alloc (Nat.le_refl _) _)) (fun hHeld => ?_)
    clear hK K
    refine wpAnyH_ready (rs := [15]) (by kernel_rfl) (by simp) ?_
    refine AllReadyH.cons rfl (fun K hK => ?_) AllReadyH.nil
    go_simp
    go_wp2_with (go_at_call 51; go_must (refine (CA2.out wD.heap.size _ (new_c0 wD _ _ 2) (new_c1 wD _ _ 2)).mono ?_; rintro e w15 ⟨rfl, rfl⟩))
    refine hK.out _ _ (hHeld) (fun hHeld => ?_)
    clear hK K
    refine wpAnyH_take (i := 16) (oi := ⟨some 99, _, _, _, _, _⟩) (v := ?_) rfl (by kernel_rfl) (by kernel_rfl) (by kernel_rfl) (fun _ _ _ h => h) (Or.inl ⟨by rfl, ?_⟩) hHeld ?_
    rotate_left
    · intro w hSw
      go_simp
      try with_reducible rfl
    try simp only [Act.put, List.setIfInBounds_toArray, List.set_cons_zero, List.set_cons_succ]
    refine wpAnyH_take (i := 17) (oi := ⟨some 100, _, _, _, _, _⟩) (v := ?_) rfl (by kernel_rfl) (by kernel_rfl) (by kernel_rfl) (fun _ _ _ h => h) (Or.inl ⟨by rfl, ?_⟩) hHeld ?_
    rotate_left
    · intro w hSw
      go_simp
      try with_reducible rfl
    try simp only [Act.put, List.setIfInBounds_toArray, List.set_cons_zero, List.set_cons_succ]
    have hbE : Below wD.heap.size wD (wD.alloc (.cells #[.int .i64 x0.count, .int .i64 m] 2)) := (Below.refl _ _).alloc (Nat.le_refl _) _
    have hSE := HSD.out.below hbE
    have HRE := Lib.hid (keep_block hbE HRD.out)
    have HBE := Lib.hid (HBD.out.trans (two_ofB hbE))
    obtain ⟨q8, qf⟩ := hSE.count HXC.out
    have g8 := qf (n * 10 + 8)
    have HSE := Lib.hid hSE
    clear hSE qf hbE k8
    generalize wD.alloc (.cells #[.int .i64 x0.count, .int .i64 m] 2) = wE at *
    refine wpAnyH_ready (rs := [18]) (by kernel_rfl) (by simp) ?_
    refine AllReadyH.cons rfl (fun K hK => ?_) AllReadyH.nil
    go_simp
    refine hK.out _ _ (hHeld.setCell (x := ⟨b, n * 10 + 8, none⟩) (.inl rfl) _) (fun hHeld => ?_)
    clear hK K
    refine wpAnyH_done (by kernel_rfl) ?_ _
    have hS6 := HSE.out.setCount HXC.out (addC x0.count m)
    have hB6 := HBE.out.setCell (x := ⟨b, n * 10 + 8, none⟩) (.inr rfl) (.int .i64 (addC x0.count m))
    have hR6 : (wE.setCell ⟨b, n * 10 + 8, none⟩ (.int .i64 (addC x0.count m))).heap[rb]? = some (.cells SZ 195 (0, 0)) := (heap_setCell_other _ _ _ _ HNRB.out).trans HRE.out
    generalize hac : addC x0.count m = ac at *
    clear HSE HBE HRE q8 g8 hHeld HL12
    generalize wE.setCell ⟨b, n * 10 + 8, none⟩ (.int .i64 ac) = w9 at *
    obtain ⟨l9, hl9⟩ : ∃ l9, (l ++ [x0]).set n ⟨x0.p, ac, x0.err⟩ = l9 := ⟨_, rfl⟩
    have hx9 : l9[n]? = some ⟨x0.p, ac, x0.err⟩ := by rw [← hl9]; exact List.getElem?_set_self (by rw [HLC.out]; omega)
    have hln9 : l9.length = n + 1 := by rw [← hl9, List.length_set]; exact HLC.out
    have hok9 : ∀ x ∈ l9, SltOk x := by
      intro x hx
      rw [← hl9] at hx
      rcases List.mem_or_eq_of_mem_set hx with hx | rfl
      · exact HOKC.out x hx
      · exact HOKC.out x0 (List.mem_of_getElem? HXC.out)
    rw [hl9] at hS6
    have k0 := hS6.cells.1
    rw [hln9] at k0
    have hlx := hS6.load hok9 hx9
    have hoy := hok9 _ (List.mem_of_getElem? hx9)
    have hya := sltC_all hoy
    have hyl : (sltC (⟨x0.p, ac, x0.err⟩ : Slt)).toArray.size = 10 := by rw [List.size_toArray]; exact sltC_len hoy
    have hys : (Tryz.prog.info? 195).map (·.size) = some (sltC (⟨x0.p, ac, x0.err⟩ : Slt)).toArray.size := by rw [hyl]; exact slt_size
    have hst := box_store (t := 195) hR6 hys hya (HSZS.out.trans hyl.symm)
    have hbx := box_whole (cs := (sltC (⟨x0.p, ac, x0.err⟩ : Slt)).toArray) hR6 (hyl.trans HSZS.out.symm)
    obtain ⟨C9, hC9, hC9s, hC9r⟩ := hS6.row
    have hnp := ne_ty hS6.ptr hR6 (by decide)
    have hS9 : SkAt (w9.setCells rb 0 (sltC (⟨x0.p, ac, x0.err⟩ : Slt)).toArray.toList) pb b l9 room t1 := ⟨(heap_setCells_other _ _ _ _ _ hnp).trans hS6.ptr, ⟨C9, (heap_setCells_other _ _ _ _ _ HNRB.out.symm).trans hC9, hC9s, hC9r⟩, hS6.len, hS6.pre⟩
    have hB9 := hB6.newCells hrb (sltC (⟨x0.p, ac, x0.err⟩ : Slt)).toArray.toList 0
    have HBX := Lib.hid hbx
    have HS9 := Lib.hid hS9
    have HB9 := Lib.hid hB9
    have HYS := Lib.hid hys
    have HL9 := Lib.hid hl9
    have HAC := Lib.hid hac
    clear hC9r hC9 hbx hS9 hB9 hys hl9 hac hya hyl hoy hok9 hx9 hS6 hB6 hR6
    generalize hY : (sltC (⟨x0.p, ac, x0.err⟩ : Slt)).toArray = Y at *
    have HY := Lib.hid hY
    clear hY
    generalize World.setCells w9 rb 0 Y.toList = w10 at *
    go_wp2_with (first | ((with_reducible refine arm_load 107 106 195 _ _ hlx ?_ ?_); rfl) | ((with_reducible refine arm_store 6 107 195 _ _ _ hst ?_ ?_ ?_); rfl; rfl))
    refine bodyPost_ret (results_cell_row rfl _ _ _ _ _ _ _ rfl HBX.out Tryz.underlying195 rfl HYS.out) rfl ?_
    have hl9 := HL9.out
    have hac := HAC.out
    refine ⟨?_, ?_, HB9.out⟩
    · rw [← HY.out, ← HX0.out, ← HAC.out, HX0C.out]
    · have h9 := HS9.out
      rw [← HL9.out, ← HN.out, ← HAC.out, HX0C.out, List.set_append_right _ _ (Nat.le_refl _), Nat.sub_self] at h9
      rw [← HX0.out] at h9
      exact h9
end Go.Proofs.YtpanmfdbdgecaaaGreat.C

namespace Go.Proofs.YtpanmfdbdgecaaaGreat.C
open Go.RowKit
set_option linter.unusedVariables false
theorem WiAt.cells {w : World} {wb pb b : Nat} {l : List Slt} {room : Nat} {total ns thr num : Int} (h : WiAt w wb pb b l room total ns thr num) : w.cell? ⟨wb, 0, none⟩ = some (.pointer (some ⟨pb, 0, none⟩)) ∧ w.cell? ⟨wb, 1, none⟩ = some (.int .i64 ns) ∧ w.cell? ⟨wb, 2, none⟩ = some (.int .i64 thr) ∧ w.cell? ⟨wb, 3, none⟩ = some (.int .i64 num) ∧ w.frozen? ⟨wb, 3, none⟩ = false := by
  rw [cell_of_row _ _ _ _ _ _ h.ptr, cell_of_row _ _ _ _ _ _ h.ptr, cell_of_row _ _ _ _ _ _ h.ptr, cell_of_row _ _ _ _ _ _ h.ptr]
  exact ⟨rfl, rfl, rfl, rfl, frozen_of_row _ _ _ _ _ h.ptr⟩
theorem SkAt.keep {w w' : World} {pb b room : Nat} {l : List Slt} {t : Int} (h : SkAt w pb b l room t) (h1 : w'.heap[pb]? = w.heap[pb]?) (h2 : w'.heap[b]? = w.heap[b]?) : SkAt w' pb b l room t := by
  obtain ⟨C, hC, hs, hr⟩ := h.row
  exact ⟨h1.trans h.ptr, ⟨C, h2.trans hC, hs, hr⟩, h.len, h.pre⟩
theorem SkAt.lt {w : World} {pb b room : Nat} {l : List Slt} {t : Int} (h : SkAt w pb b l room t) : pb < w.heap.size ∧ b < w.heap.size := by
  obtain ⟨C, hC, _⟩ := h.row
  exact ⟨(Array.getElem?_eq_some_iff.1 h.ptr).1, (Array.getElem?_eq_some_iff.1 hC).1⟩
theorem WiAt.ne {w : World} {wb pb b : Nat} {l : List Slt} {room : Nat} {total ns thr num : Int} (h : WiAt w wb pb b l room total ns thr num) : wb ≠ pb ∧ wb ≠ b := by
  obtain ⟨C, hC, _⟩ := h.sk.row
  exact ⟨ne_ty h.ptr h.sk.ptr (by decide), ne_ty h.ptr hC (by decide)⟩
/-- What an Add to the sketch does. -/
def Adds (pb b room : Nat) (l : List Slt) (t : Int) (p : Array Value) (m : Int) (y : Slt) (l2 : List Slt) (t2 : Int) : Prop :=
  ∀ w, SkAt w pb b l room t → Calls Tryz.prog 67 #[.pointer (some ⟨pb, 0, none⟩), .agg p, .int .i64 m] w fun e w' => e = .returned (.agg (sltC y).toArray) ∧ SkAt w' pb b l2 room t2 ∧ Two pb b w w'
set_option maxRecDepth 100000 in
set_option maxHeartbeats 1000000 in
theorem window_add (wb pb b room : Nat) (l lr l2 : List Slt) (total tr t2 ns thr num nr now m : Int) (y : Slt) (p : Array Value) (w : World) (h : WiAt w wb pb b l room total ns thr num) (hp : p.size = 8) (ha : p.all (·.oneCell') = true) (hns : 1 ≤ ns) (hnow : 0 ≤ now ∧ now ≤ 4611686018427387903)
    (hc : (num < now / ns ∧ lr = [] ∧ tr = 0 ∧ nr = now / ns) ∨ (now / ns ≤ num ∧ lr = l ∧ tr = total ∧ nr = num)) (hadd : Adds pb b room lr tr p m y l2 t2) (hy : SltOk y) (hyr : 0 ≤ y.count - y.err ∧ y.count - y.err ≤ 4611686018427387904) :
    Calls Tryz.prog 37 #[.pointer (some ⟨wb, 0, none⟩), .int .i64 now, .agg p, .int .i64 m] w fun e w' => e = .returned (.bool (decide (thr ≤ y.count - y.err))) ∧ WiAt w' wb pb b l2 room t2 ns thr nr ∧ Amg [wb, pb, b] w w' := by
  have hps : (Tryz.prog.info? 65).map (·.size) = some p.size := by rw [hp]; exact pf_size
  have HPS := Lib.hid hps
  have HH := Lib.hid h
  unfold Adds at hadd
  have HAD := Lib.hid hadd
  have HC := Lib.hid hc
  have hy10 : (sltC y).toArray.size = 10 := by rw [List.size_toArray]; exact sltC_len hy
  have HY10 := Lib.hid hy10
  have HYA := Lib.hid (sltC_all hy)
  have hyc : (sltC y).toArray[8]? = some (.int .i64 y.count) ∧ (sltC y).toArray[9]? = some (.int .i64 y.err) := by
    have := hy.2.1
    constructor <;> simp [sltC, this]
  have HYC := Lib.hid hyc
  have hysub : IntKind.i64.wrap (y.count - y.err) = y.count - y.err := IntWalk.i64_in _ (by omega)
  clear hps h hadd hc hy hy10 hyc hyr
  generalize (sltC y).toArray = Y at *
  generalize y.count = yc at *
  generalize y.err = ye at *
  obtain ⟨SZ, hSZ⟩ : ∃ z, SlZ = z := ⟨_, rfl⟩
  have hsz := slz_zero
  have hszs : SZ.size = 10 := by rw [← hSZ]; rfl
  rw [hSZ] at hsz
  have HSZ := Lib.hid hsz
  have HSZS := Lib.hid hszs
  clear hsz hszs hSZ
  have hmin : (if (4611686018427387903 : Int) < now then (4611686018427387903 : Int) else now) = now := if_neg (by omega)
  have hmax : (if (0 : Int) < now then now else 0) = now := by split <;> omega
  obtain ⟨q, hq⟩ : ∃ q, now / ns = q := ⟨_, rfl⟩
  have hqt : now.tdiv ns = q := by rw [Int.tdiv_eq_ediv_of_nonneg hnow.1, hq]
  have hq0 : 0 ≤ q := by rw [← hq]; exact Int.ediv_nonneg hnow.1 (by omega)
  have hqn : q ≤ now := by rw [← hq]; exact Int.ediv_le_self _ hnow.1
  have hqw : IntKind.i64.wrap q = q := IntWalk.i64_in _ (by omega)
  have hns0 : ¬ ns = 0 := by omega
  rw [hq] at HC
  clear hq
  go_enter Tryz.func37, Tryz.ntmps37
  go_upto_region 1 with ((with_reducible refine arm_box 6 2 65 p ?_ ?_); rfl; intro w1 HB1 HX1 HS1)
  have hW1 := HH.out.below HB1.out
  obtain ⟨c0, c1, c2, c3, f3⟩ := hW1.cells
  have HW1 := Lib.hid hW1
  clear hW1
  go_upto_region 4 with (fail)
  rcases HC.out with ⟨h1, e1, e2, e3⟩ | ⟨h1, e1, e2, e3⟩
  · have f3' := f3
    have hsk2 : SkAt (w1.setCell ⟨wb, 3, none⟩ (.int .i64 q)) pb b l room total := HW1.out.sk.keep (heap_setCell_other _ _ _ _ HW1.out.ne.1.symm) (heap_setCell_other _ _ _ _ HW1.out.ne.2.symm)
    have hwp2 : (w1.setCell ⟨wb, 3, none⟩ (.int .i64 q)).heap[wb]? = some (.cells #[.pointer (some ⟨pb, 0, none⟩), .int .i64 ns, .int .i64 thr, .int .i64 q] 193 (0, 0)) := heap_setCell_same _ _ 3 _ _ (.int .i64 q) HW1.out.ptr
    have CR := Lib.hid (sketch_reset hsk2)
    have np0 := ne_ty HX1.out HW1.out.ptr (by decide)
    have hp2 : (w1.setCell ⟨wb, 3, none⟩ (.int .i64 q)).heap[w.heap.size]? = some (.cells p 65 (0, 0)) := (heap_setCell_other _ _ _ _ np0).trans HX1.out
    have ha2 : Amg [wb, pb, b] w (w1.setCell ⟨wb, 3, none⟩ (.int .i64 q)) := (Amg.of_below HB1.out).trans (Amg.of_two (Two.setCell (g := wb) (h := wb) (x := ⟨wb, 3, none⟩) (Two.refl wb wb w1) (.inl rfl) (.int .i64 q)) (by simp) (by simp))
    have e0 := cells_of_row hwp2 0 _ rfl
    go_upto_region 6 with (fail)
    clear c0 c1 c2 c3 f3 f3'
    generalize w1.setCell ⟨wb, 3, none⟩ (.int .i64 q) = w2 at *
    have q1 := ne_ty hwp2 hsk2.ptr (by decide)
    have q2 : wb ≠ b := by
      obtain ⟨C, hC, _⟩ := hsk2.row
      exact ne_ty hwp2 hC (by decide)
    have q3 := ne_ty hp2 hsk2.ptr (by decide)
    have q4 : w.heap.size ≠ b := by
      obtain ⟨C, hC, _⟩ := hsk2.row
      exact ne_ty hp2 hC (by decide)
    go_wp2_with fail
    refine CR.out.mono ?_
    rintro e W7 ⟨rfl, hSr, hTr⟩
    have hW7 : WiAt W7 wb pb b lr room tr ns thr nr := by
      rw [e1, e2, e3]
      exact ⟨(hTr.block wb (Array.getElem?_eq_some_iff.1 hwp2).1 q1 q2).trans hwp2, hSr⟩
    have hP7 : W7.heap[w.heap.size]? = some (.cells p 65 (0, 0)) := (hTr.block _ (Array.getElem?_eq_some_iff.1 hp2).1 q3 q4).trans hp2
    have hA7 : Amg [wb, pb, b] w W7 := ha2.trans (Amg.of_two hTr (by simp) (by simp))
    clear hSr hTr CR hsk2 hwp2 hp2 ha2 e0 q1 q2 q3 q4 e1 e2 e3
    have HP7 := Lib.hid hP7
    have HW7 := Lib.hid hW7
    have HA7 := Lib.hid hA7
    obtain ⟨m1, m2⟩ := hW7.ne
    have n1 : w.heap.size ≠ pb := ne_ty hP7 hW7.sk.ptr (by decide)
    obtain ⟨sl1, sl2⟩ := hW7.sk.lt
    have n2 : w.heap.size ≠ b := by
      obtain ⟨C, hC, _⟩ := hW7.sk.row
      exact ne_ty hP7 hC (by decide)
    have HL7 : Hid (∀ w', Two pb b W7 w' → w'.cell? ⟨wb, 0, none⟩ = some (.pointer (some ⟨pb, 0, none⟩)) ∧ (Instr.loadAt 65 (.pointer (some ⟨w.heap.size, 0, none⟩))).run Tryz.prog w' = .ok (.agg p) w') := Lib.hid fun w' qq =>
      ⟨cells_of_row ((qq.block wb (Array.getElem?_eq_some_iff.1 HW7.out.ptr).1 m1 m2).trans HW7.out.ptr) 0 _ rfl, box_load (t := 65) ((qq.block _ (Array.getElem?_eq_some_iff.1 HP7.out).1 n1 n2).trans HP7.out) _ Tryz.underlying65 rfl HPS.out⟩
    have HSD : Hid (SkAt W7.drew pb b lr room tr) := Lib.hid HW7.out.sk.drew
    clear hP7 hW7 hA7
    go_wp2_with fail
    refine wp_region_held_drew (S := Two pb b W7) (by kernel_rfl) ((Two.refl pb b W7).drewN 1) (fun hHeld => ?_)
    refine wpAnyH_take (i := 0) (oi := ⟨some 36, _, _, _, _, _⟩) (v := ?_) rfl (by kernel_rfl) (by kernel_rfl) (by kernel_rfl) (fun _ _ _ h => h) (Or.inl ⟨by rfl, ?_⟩) hHeld ?_
    rotate_left
    · intro w hSw
      go_simp
      try with_reducible rfl
    try simp only [Act.put, List.setIfInBounds_toArray, List.set_cons_zero, List.set_cons_succ]
    refine wpAnyH_take (i := 1) (oi := ⟨some 37, _, _, _, _, _⟩) (v := ?_) rfl (by kernel_rfl) (by kernel_rfl) (by kernel_rfl) (fun _ _ _ h => h) (Or.inl ⟨by rfl, ?_⟩) hHeld ?_
    rotate_left
    · intro w hSw
      go_simp
      try with_reducible rfl
    try simp only [Act.put, List.setIfInBounds_toArray, List.set_cons_zero, List.set_cons_succ]
    refine wpAnyH_take (i := 2) (oi := ⟨some 38, _, _, _, _, _⟩) (v := ?_) rfl (by kernel_rfl) (by kernel_rfl) (by kernel_rfl) (fun _ _ _ h => h) (Or.inl ⟨by rfl, ?_⟩) hHeld ?_
    rotate_left
    · intro w hSw
      go_simp
      try with_reducible rfl
    try simp only [Act.put, List.setIfInBounds_toArray, List.set_cons_zero, List.set_cons_succ]
    refine wpAnyH_take (i := 3) (oi := ⟨some 39, _, _, _, _, _⟩) (v := ?_) rfl (by kernel_rfl) (by kernel_rfl) (by kernel_rfl) (fun _ _ _ h => h) (Or.inl ⟨by rfl, ?_⟩) hHeld ?_
    rotate_left
    · intro w hSw
      obtain ⟨k0, _⟩ := HL7.out w hSw
      go_simp
      try with_reducible rfl
    try simp only [Act.put, List.setIfInBounds_toArray, List.set_cons_zero, List.set_cons_succ]
    refine wpAnyH_take (i := 4) (oi := ⟨some 40, _, _, _, _, _⟩) (v := .agg p) rfl (by kernel_rfl) (by kernel_rfl) (by kernel_rfl) (fun _ _ _ h => h) (Or.inl ⟨by rfl, fun w hSw => exec_load rfl (HL7.out w hSw).2⟩) hHeld ?_
    try simp only [Act.put, List.setIfInBounds_toArray, List.set_cons_zero, List.set_cons_succ]
    refine wpAnyH_take (i := 5) (oi := ⟨some 41, _, _, _, _, _⟩) (v := ?_) rfl (by kernel_rfl) (by kernel_rfl) (by kernel_rfl) (fun _ _ _ h => h) (Or.inl ⟨by rfl, ?_⟩) hHeld ?_
    rotate_left
    · intro w hSw
      go_simp
      try with_reducible rfl
    try simp only [Act.put, List.setIfInBounds_toArray, List.set_cons_zero, List.set_cons_succ]
    refine wpAnyH_ready (rs := [6, 7]) (by kernel_rfl) (by simp) ?_
    refine AllReadyH.cons rfl (fun K hK => ?_) (AllReadyH.cons rfl (fun K hK => ?_) AllReadyH.nil)
    · skip
      go_simp
      go_wp2_with (go_at_call 67; go_must (refine (HAD.out _ HSD.out).mono ?_; rintro e w6 ⟨rfl, hS6, hT6⟩))
      refine hK.out _ _ (hHeld.trans hT6) (fun hHeld => ?_)
      clear hK K
      refine wpAnyH_ready (rs := [7]) (by kernel_rfl) (by simp) ?_
      refine AllReadyH.cons rfl (fun K hK => ?_) AllReadyH.nil
      have hs9 := hHeld.size; refine step_alloc 10 195 SZ 10 HSZ.out ?_; intro W9 HB9 HX9 HS9
      refine hK.out _ _ (two_next hHeld HB9.out) (fun hHeld => ?_)
      clear hK K
      obtain ⟨rb, hrb⟩ : ∃ r, r = w6.heap.size := ⟨_, rfl⟩
      have hX9 : W9.heap[rb]? = some (.cells SZ 195 (0, 0)) := by rw [hrb]; exact HX9.out
      have hS9 := hS6.below HB9.out
      have hrn : rb ≠ pb ∧ rb ≠ b ∧ rb ≠ wb := by
        have a1 := hs9
        have a2 := (Array.getElem?_eq_some_iff.1 HW7.out.ptr).1
        refine ⟨by omega, by omega, by omega⟩
      have hge : W7.heap.size ≤ rb := by omega
      have hst := box_store (t := 195) (x := Y) hX9 (by rw [HY10.out]; exact slt_size) HYA.out (HSZS.out.trans HY10.out.symm)
      have hbx := box_whole (cs := Y) hX9 (HY10.out.trans HSZS.out.symm)
      have hS10 : SkAt (W9.setCells rb 0 Y.toList) pb b l2 room t2 := hS9.keep (heap_setCells_other _ _ _ _ _ hrn.1.symm) (heap_setCells_other _ _ _ _ _ hrn.2.1.symm)
      have hT10 : Two pb b W7 (W9.setCells rb 0 Y.toList) := hHeld.newCells hge Y.toList 0
      have HST := Lib.hid hst
      clear hst
      rw [hrb] at HST hbx hS10 hT10 hge hrn
      refine wpAnyH_ready (rs := [8]) (by kernel_rfl) (by simp) ?_
      refine AllReadyH.cons rfl (fun K hK => ?_) AllReadyH.nil
      refine step_store 10 42 195 _ _ _ HST.out rfl rfl ?_
      refine hK.out _ _ (hT10) (fun hHeld => ?_)
      clear hK K
      refine wpAnyH_done (by kernel_rfl) ?_ _
      try simp only [Act.put, List.setIfInBounds_toArray, List.set_cons_zero, List.set_cons_succ]
      have hwb := (hT10.block wb (Array.getElem?_eq_some_iff.1 HW7.out.ptr).1 m1 m2).trans HW7.out.ptr
      have HWI : Hid (WiAt (W9.setCells w6.heap.size 0 Y.toList) wb pb b l2 room t2 ns thr nr) := Lib.hid ⟨hwb, hS10⟩
      have HAM : Hid (Amg [wb, pb, b] w (W9.setCells w6.heap.size 0 Y.toList)) := Lib.hid (HA7.out.trans (Amg.of_two hT10 (by simp) (by simp)))
      have r8 := cells_of_row hbx 8 _ HYC.out.1
      have r9 := cells_of_row hbx 9 _ HYC.out.2
      have r2 := cells_of_row hwb 2 _ rfl
      clear hHeld hS6 hT6 hS9 hX9 hbx hS10 hT10 hwb hrb
      generalize World.setCells _ _ 0 Y.toList = w10 at *
      go_wp2_with fail
      go_region
      go_wp2
      go_ret
      exact ⟨rfl, ⟨HWI.out.ptr, HWI.out.sk.drew⟩, HAM.out.trans (Amg.of_below ((Below.refl w10.heap.size w10).drew))⟩
    · skip
      have hs9 := hHeld.size; refine step_alloc 10 195 SZ 10 HSZ.out ?_; intro W9 HB9 HX9 HS9
      refine hK.out _ _ (two_next hHeld HB9.out) (fun hHeld => ?_)
      clear hK K
      refine wpAnyH_ready (rs := [6]) (by kernel_rfl) (by simp) ?_
      refine AllReadyH.cons rfl (fun K hK => ?_) AllReadyH.nil
      go_simp
      go_wp2_with (go_at_call 67; go_must (refine (HAD.out _ (HSD.out.below HB9.out)).mono ?_; rintro e w6 ⟨rfl, hS6, hT6⟩))
      refine hK.out _ _ (hHeld.trans hT6) (fun hHeld => ?_)
      clear hK K
      obtain ⟨rb, hrb⟩ : ∃ r, r = W7.heap.size := ⟨_, rfl⟩
      have hrn : rb ≠ pb ∧ rb ≠ b ∧ rb ≠ wb := by
        have a2 := (Array.getElem?_eq_some_iff.1 HW7.out.ptr).1
        refine ⟨by omega, by omega, by omega⟩
      have hX9' : W9.heap[rb]? = some (.cells SZ 195 (0, 0)) := by rw [hrb]; exact HX9.out
      have hX9 : w6.heap[rb]? = some (.cells SZ 195 (0, 0)) := (hT6.block rb (Array.getElem?_eq_some_iff.1 hX9').1 hrn.1 hrn.2.1).trans hX9'
      have hS9 := hS6
      have hge : W7.heap.size ≤ rb := by omega
      have hst := box_store (t := 195) (x := Y) hX9 (by rw [HY10.out]; exact slt_size) HYA.out (HSZS.out.trans HY10.out.symm)
      have hbx := box_whole (cs := Y) hX9 (HY10.out.trans HSZS.out.symm)
      have hS10 : SkAt (w6.setCells rb 0 Y.toList) pb b l2 room t2 := hS9.keep (heap_setCells_other _ _ _ _ _ hrn.1.symm) (heap_setCells_other _ _ _ _ _ hrn.2.1.symm)
      have hT10 : Two pb b W7 (w6.setCells rb 0 Y.toList) := hHeld.newCells hge Y.toList 0
      have HST := Lib.hid hst
      clear hst
      rw [hrb] at HST hbx hS10 hT10 hge hrn
      refine wpAnyH_ready (rs := [8]) (by kernel_rfl) (by simp) ?_
      refine AllReadyH.cons rfl (fun K hK => ?_) AllReadyH.nil
      refine step_store 10 42 195 _ _ _ HST.out rfl rfl ?_
      refine hK.out _ _ (hT10) (fun hHeld => ?_)
      clear hK K
      refine wpAnyH_done (by kernel_rfl) ?_ _
      try simp only [Act.put]
      have hwb := (hT10.block wb (Array.getElem?_eq_some_iff.1 HW7.out.ptr).1 m1 m2).trans HW7.out.ptr
      have HWI : Hid (WiAt (w6.setCells W7.heap.size 0 Y.toList) wb pb b l2 room t2 ns thr nr) := Lib.hid ⟨hwb, hS10⟩
      have HAM : Hid (Amg [wb, pb, b] w (w6.setCells W7.heap.size 0 Y.toList)) := Lib.hid (HA7.out.trans (Amg.of_two hT10 (by simp) (by simp)))
      have r8 := cells_of_row hbx 8 _ HYC.out.1
      have r9 := cells_of_row hbx 9 _ HYC.out.2
      have r2 := cells_of_row hwb 2 _ rfl
      clear hHeld hS6 hT6 hS9 hX9 hbx hS10 hT10 hwb hrb
      generalize World.setCells _ _ 0 Y.toList = w10 at *
      go_wp2_with fail
      go_region
      go_wp2
      go_ret
      exact ⟨rfl, ⟨HWI.out.ptr, HWI.out.sk.drew⟩, HAM.out.trans (Amg.of_below ((Below.refl w10.heap.size w10).drew))⟩
  · have hW7 : WiAt w1 wb pb b lr room tr ns thr nr := by
      rw [e1, e2, e3]
      exact HW1.out
    have hP7 := HX1.out
    have hA7 : Amg [wb, pb, b] w w1 := Amg.of_below HB1.out
    clear HW1 HX1 HB1 e1 e2 e3
    go_wp2_with fail
    clear c0 c1 c2 c3 f3
    generalize w1 = W7 at *
    have HP7 := Lib.hid hP7
    have HW7 := Lib.hid hW7
    have HA7 := Lib.hid hA7
    obtain ⟨m1, m2⟩ := hW7.ne
    have n1 : w.heap.size ≠ pb := ne_ty hP7 hW7.sk.ptr (by decide)
    obtain ⟨sl1, sl2⟩ := hW7.sk.lt
    have n2 : w.heap.size ≠ b := by
      obtain ⟨C, hC, _⟩ := hW7.sk.row
      exact ne_ty hP7 hC (by decide)
    have HL7 : Hid (∀ w', Two pb b W7 w' → w'.cell? ⟨wb, 0, none⟩ = some (.pointer (some ⟨pb, 0, none⟩)) ∧ (Instr.loadAt 65 (.pointer (some ⟨w.heap.size, 0, none⟩))).run Tryz.prog w' = .ok (.agg p) w') := Lib.hid fun w' qq =>
      ⟨cells_of_row ((qq.block wb (Array.getElem?_eq_some_iff.1 HW7.out.ptr).1 m1 m2).trans HW7.out.ptr) 0 _ rfl, box_load (t := 65) ((qq.block _ (Array.getElem?_eq_some_iff.1 HP7.out).1 n1 n2).trans HP7.out) _ Tryz.underlying65 rfl HPS.out⟩
    have HSD : Hid (SkAt W7.drew pb b lr room tr) := Lib.hid HW7.out.sk.drew
    clear hP7 hW7 hA7
    go_wp2_with fail
    refine wp_region_held_drew (S := Two pb b W7) (by kernel_rfl) ((Two.refl pb b W7).drewN 1) (fun hHeld => ?_)
    refine wpAnyH_take (i := 0) (oi := ⟨some 36, _, _, _, _, _⟩) (v := ?_) rfl (by kernel_rfl) (by kernel_rfl) (by kernel_rfl) (fun _ _ _ h => h) (Or.inl ⟨by rfl, ?_⟩) hHeld ?_
    rotate_left
    · intro w hSw
      go_simp
      try with_reducible rfl
    try simp only [Act.put, List.setIfInBounds_toArray, List.set_cons_zero, List.set_cons_succ]
    refine wpAnyH_take (i := 1) (oi := ⟨some 37, _, _, _, _, _⟩) (v := ?_) rfl (by kernel_rfl) (by kernel_rfl) (by kernel_rfl) (fun _ _ _ h => h) (Or.inl ⟨by rfl, ?_⟩) hHeld ?_
    rotate_left
    · intro w hSw
      go_simp
      try with_reducible rfl
    try simp only [Act.put, List.setIfInBounds_toArray, List.set_cons_zero, List.set_cons_succ]
    refine wpAnyH_take (i := 2) (oi := ⟨some 38, _, _, _, _, _⟩) (v := ?_) rfl (by kernel_rfl) (by kernel_rfl) (by kernel_rfl) (fun _ _ _ h => h) (Or.inl ⟨by rfl, ?_⟩) hHeld ?_
    rotate_left
    · intro w hSw
      go_simp
      try with_reducible rfl
    try simp only [Act.put, List.setIfInBounds_toArray, List.set_cons_zero, List.set_cons_succ]
    refine wpAnyH_take (i := 3) (oi := ⟨some 39, _, _, _, _, _⟩) (v := ?_) rfl (by kernel_rfl) (by kernel_rfl) (by kernel_rfl) (fun _ _ _ h => h) (Or.inl ⟨by rfl, ?_⟩) hHeld ?_
    rotate_left
    · intro w hSw
      obtain ⟨k0, _⟩ := HL7.out w hSw
      go_simp
      try with_reducible rfl
    try simp only [Act.put, List.setIfInBounds_toArray, List.set_cons_zero, List.set_cons_succ]
    refine wpAnyH_take (i := 4) (oi := ⟨some 40, _, _, _, _, _⟩) (v := .agg p) rfl (by kernel_rfl) (by kernel_rfl) (by kernel_rfl) (fun _ _ _ h => h) (Or.inl ⟨by rfl, fun w hSw => exec_load rfl (HL7.out w hSw).2⟩) hHeld ?_
    try simp only [Act.put, List.setIfInBounds_toArray, List.set_cons_zero, List.set_cons_succ]
    refine wpAnyH_take (i := 5) (oi := ⟨some 41, _, _, _, _, _⟩) (v := ?_) rfl (by kernel_rfl) (by kernel_rfl) (by kernel_rfl) (fun _ _ _ h => h) (Or.inl ⟨by rfl, ?_⟩) hHeld ?_
    rotate_left
    · intro w hSw
      go_simp
      try with_reducible rfl
    try simp only [Act.put, List.setIfInBounds_toArray, List.set_cons_zero, List.set_cons_succ]
    refine wpAnyH_ready (rs := [6, 7]) (by kernel_rfl) (by simp) ?_
    refine AllReadyH.cons rfl (fun K hK => ?_) (AllReadyH.cons rfl (fun K hK => ?_) AllReadyH.nil)
    · skip
      go_simp
      go_wp2_with (go_at_call 67; go_must (refine (HAD.out _ HSD.out).mono ?_; rintro e w6 ⟨rfl, hS6, hT6⟩))
      refine hK.out _ _ (hHeld.trans hT6) (fun hHeld => ?_)
      clear hK K
      refine wpAnyH_ready (rs := [7]) (by kernel_rfl) (by simp) ?_
      refine AllReadyH.cons rfl (fun K hK => ?_) AllReadyH.nil
      have hs9 := hHeld.size; refine step_alloc 10 195 SZ 10 HSZ.out ?_; intro W9 HB9 HX9 HS9
      refine hK.out _ _ (two_next hHeld HB9.out) (fun hHeld => ?_)
      clear hK K
      obtain ⟨rb, hrb⟩ : ∃ r, r = w6.heap.size := ⟨_, rfl⟩
      have hX9 : W9.heap[rb]? = some (.cells SZ 195 (0, 0)) := by rw [hrb]; exact HX9.out
      have hS9 := hS6.below HB9.out
      have hrn : rb ≠ pb ∧ rb ≠ b ∧ rb ≠ wb := by
        have a1 := hs9
        have a2 := (Array.getElem?_eq_some_iff.1 HW7.out.ptr).1
        refine ⟨by omega, by omega, by omega⟩
      have hge : W7.heap.size ≤ rb := by omega
      have hst := box_store (t := 195) (x := Y) hX9 (by rw [HY10.out]; exact slt_size) HYA.out (HSZS.out.trans HY10.out.symm)
      have hbx := box_whole (cs := Y) hX9 (HY10.out.trans HSZS.out.symm)
      have hS10 : SkAt (W9.setCells rb 0 Y.toList) pb b l2 room t2 := hS9.keep (heap_setCells_other _ _ _ _ _ hrn.1.symm) (heap_setCells_other _ _ _ _ _ hrn.2.1.symm)
      have hT10 : Two pb b W7 (W9.setCells rb 0 Y.toList) := hHeld.newCells hge Y.toList 0
      have HST := Lib.hid hst
      clear hst
      rw [hrb] at HST hbx hS10 hT10 hge hrn
      refine wpAnyH_ready (rs := [8]) (by kernel_rfl) (by simp) ?_
      refine AllReadyH.cons rfl (fun K hK => ?_) AllReadyH.nil
      refine step_store 10 42 195 _ _ _ HST.out rfl rfl ?_
      refine hK.out _ _ (hT10) (fun hHeld => ?_)
      clear hK K
      refine wpAnyH_done (by kernel_rfl) ?_ _
      try simp only [Act.put, List.setIfInBounds_toArray, List.set_cons_zero, List.set_cons_succ]
      have hwb := (hT10.block wb (Array.getElem?_eq_some_iff.1 HW7.out.ptr).1 m1 m2).trans HW7.out.ptr
      have HWI : Hid (WiAt (W9.setCells w6.heap.size 0 Y.toList) wb pb b l2 room t2 ns thr nr) := Lib.hid ⟨hwb, hS10⟩
      have HAM : Hid (Amg [wb, pb, b] w (W9.setCells w6.heap.size 0 Y.toList)) := Lib.hid (HA7.out.trans (Amg.of_two hT10 (by simp) (by simp)))
      have r8 := cells_of_row hbx 8 _ HYC.out.1
      have r9 := cells_of_row hbx 9 _ HYC.out.2
      have r2 := cells_of_row hwb 2 _ rfl
      clear hHeld hS6 hT6 hS9 hX9 hbx hS10 hT10 hwb hrb
      generalize World.setCells _ _ 0 Y.toList = w10 at *
      go_wp2_with fail
      go_region
      go_wp2
      go_ret
      exact ⟨rfl, ⟨HWI.out.ptr, HWI.out.sk.drew⟩, HAM.out.trans (Amg.of_below ((Below.refl w10.heap.size w10).drew))⟩
    · skip
      have hs9 := hHeld.size; refine step_alloc 10 195 SZ 10 HSZ.out ?_; intro W9 HB9 HX9 HS9
      refine hK.out _ _ (two_next hHeld HB9.out) (fun hHeld => ?_)
      clear hK K
      refine wpAnyH_ready (rs := [6]) (by kernel_rfl) (by simp) ?_
      refine AllReadyH.cons rfl (fun K hK => ?_) AllReadyH.nil
      go_simp
      go_wp2_with (go_at_call 67; go_must (refine (HAD.out _ (HSD.out.below HB9.out)).mono ?_; rintro e w6 ⟨rfl, hS6, hT6⟩))
      refine hK.out _ _ (hHeld.trans hT6) (fun hHeld => ?_)
      clear hK K
      obtain ⟨rb, hrb⟩ : ∃ r, r = W7.heap.size := ⟨_, rfl⟩
      have hrn : rb ≠ pb ∧ rb ≠ b ∧ rb ≠ wb := by
        have a2 := (Array.getElem?_eq_some_iff.1 HW7.out.ptr).1
        refine ⟨by omega, by omega, by omega⟩
      have hX9' : W9.heap[rb]? = some (.cells SZ 195 (0, 0)) := by rw [hrb]; exact HX9.out
      have hX9 : w6.heap[rb]? = some (.cells SZ 195 (0, 0)) := (hT6.block rb (Array.getElem?_eq_some_iff.1 hX9').1 hrn.1 hrn.2.1).trans hX9'
      have hS9 := hS6
      have hge : W7.heap.size ≤ rb := by omega
      have hst := box_store (t := 195) (x := Y) hX9 (by rw [HY10.out]; exact slt_size) HYA.out (HSZS.out.trans HY10.out.symm)
      have hbx := box_whole (cs := Y) hX9 (HY10.out.trans HSZS.out.symm)
      have hS10 : SkAt (w6.setCells rb 0 Y.toList) pb b l2 room t2 := hS9.keep (heap_setCells_other _ _ _ _ _ hrn.1.symm) (heap_setCells_other _ _ _ _ _ hrn.2.1.symm)
      have hT10 : Two pb b W7 (w6.setCells rb 0 Y.toList) := hHeld.newCells hge Y.toList 0
      have HST := Lib.hid hst
      clear hst
      rw [hrb] at HST hbx hS10 hT10 hge hrn
      refine wpAnyH_ready (rs := [8]) (by kernel_rfl) (by simp) ?_
      refine AllReadyH.cons rfl (fun K hK => ?_) AllReadyH.nil
      refine step_store 10 42 195 _ _ _ HST.out rfl rfl ?_
      refine hK.out _ _ (hT10) (fun hHeld => ?_)
      clear hK K
      refine wpAnyH_done (by kernel_rfl) ?_ _
      try simp only [Act.put]
      have hwb := (hT10.block wb (Array.getElem?_eq_some_iff.1 HW7.out.ptr).1 m1 m2).trans HW7.out.ptr
      have HWI : Hid (WiAt (w6.setCells W7.heap.size 0 Y.toList) wb pb b l2 room t2 ns thr nr) := Lib.hid ⟨hwb, hS10⟩
      have HAM : Hid (Amg [wb, pb, b] w (w6.setCells W7.heap.size 0 Y.toList)) := Lib.hid (HA7.out.trans (Amg.of_two hT10 (by simp) (by simp)))
      have r8 := cells_of_row hbx 8 _ HYC.out.1
      have r9 := cells_of_row hbx 9 _ HYC.out.2
      have r2 := cells_of_row hwb 2 _ rfl
      clear hHeld hS6 hT6 hS9 hX9 hbx hS10 hT10 hwb hrb
      generalize World.setCells _ _ 0 Y.toList = w10 at *
      go_wp2_with fail
      go_region
      go_wp2
      go_ret
      exact ⟨rfl, ⟨HWI.out.ptr, HWI.out.sk.drew⟩, HAM.out.trans (Amg.of_below ((Below.refl w10.heap.size w10).drew))⟩
end Go.Proofs.YtpanmfdbdgecaaaGreat.C

namespace Go.Proofs.YtpanmfdbdgecaaaGreat.C
open Go.RowKit
set_option linter.unusedVariables false
/-- A config's cells. -/
structure Cfg (cv : Array Value) (c : Nat → Int) : Prop where
  size : cv.size = 20
  at_ : ∀ i, i < 20 → cv[i]? = some (.int .i64 (c i))
/-- The configs that may be. -/
structure RightC (c : Nat → Int) : Prop where
  buckets : 1 ≤ c 0 ∧ c 0 ≤ 64
  packets : 1 ≤ c 1 ∧ c 1 ≤ 4096
  levels : 1 ≤ c 2 ∧ c 2 ≤ 4
  bins : 1 ≤ c 3 ∧ c 3 ≤ 64
  up : 0 ≤ c 4 ∧ c 4 ≤ 65536
  down : 0 ≤ c 5 ∧ c 5 ≤ 65536
  slots : 1 ≤ c 6 ∧ c 6 ≤ 64
  room : 1 ≤ c 7 ∧ c 7 ≤ 64
  quantum : 9216 ≤ c 8 ∧ c 8 ≤ 1073741824
  reserve : 0 ≤ c 9 ∧ c 9 ≤ 1073741824
  shared : 0 ≤ c 10 ∧ c 10 ≤ 1073741824
  ns : 1 ≤ c 11 ∧ c 11 ≤ 1000000
  choke : 0 ≤ c 12 ∧ c 12 ≤ 1073741824
  target : 0 ≤ c 13 ∧ c 13 ≤ 1073741824
  hold : 0 ≤ c 14 ∧ c 14 ≤ 4611686018427387903
  window : 1 ≤ c 15 ∧ c 15 ≤ 4611686018427387903
  thr : 1 ≤ c 16 ∧ c 16 ≤ 4611686018427387903
  term : 1 ≤ c 17 ∧ c 17 ≤ 4611686018427387903
  rate : 0 ≤ c 18 ∧ c 18 ≤ 1073741824
  burst : 1 ≤ c 19 ∧ c 19 ≤ 1073741824
theorem Cfg.cell {cv : Array Value} {c : Nat → Int} {w : World} {b : Nat} {t : TypeId} (h : Cfg cv c) (hb : w.heap[b]? = some (.cells cv t (0, 0))) (i : Nat) (hi : i < 20) : w.cell? ⟨b, i, none⟩ = some (.int .i64 (c i)) := by
  rw [cell_of_row _ _ _ _ _ _ hb]
  exact h.at_ i hi
theorem cfg_size : (Tryz.prog.info? 26).map (·.size) = some 20 := by kernel_rfl
theorem cfg_desc : ∃ d, Tryz.prog.underlying 26 = some d ∧ d.isRow = true := ⟨_, Tryz.underlying26, rfl⟩
theorem cfg_load {w : World} {b : Nat} {cv : Array Value} {c : Nat → Int} {t : TypeId} (h : w.heap[b]? = some (.cells cv t (0, 0))) (hx : Cfg cv c) : (Instr.loadAt 26 (.pointer (some ⟨b, 0, none⟩))).run Tryz.prog w = .ok (.agg cv) w := by
  obtain ⟨d, hd1, hd2⟩ := cfg_desc
  have := run_loadAt_mid (P := Tryz.prog) w b 0 26 cv.toList d (range_of_block h fun j v hv => by simpa using hv) hd1 hd2 (by rw [cfg_size, Array.length_toList, hx.size])
  simpa using this
theorem config_in (n a b : Int) (w : World) (h0 : a ≤ n) (h1 : n ≤ b) : Calls Tryz.prog 118 #[.int .i64 n, .int .i64 a, .int .i64 b] w fun e w' => e = .returned (.bool true) ∧ w' = w := by
  go_enter Tryz.func118, Tryz.ntmps118
  go_wp2
  go_ret
  exact ⟨rfl, rfl⟩
set_option maxRecDepth 100000 in
theorem config_parts (cv : Array Value) (c : Nat → Int) (w : World) (hv : Cfg cv c) (hr : RightC c) :
    Calls Tryz.prog 119 #[.agg cv] w fun e w' => e = .returned (.bool true) ∧ Below w.heap.size w w' := by
  obtain ⟨lv, hlv⟩ := Int.eq_ofNat_of_zero_le (show 0 ≤ c 2 by have := hr.levels; omega)
  obtain ⟨bn, hbn⟩ := Int.eq_ofNat_of_zero_le (show 0 ≤ c 3 by have := hr.bins; omega)
  obtain ⟨sl, hsl⟩ := Int.eq_ofNat_of_zero_le (show 0 ≤ c 6 by have := hr.slots; omega)
  obtain ⟨rm, hrm⟩ := Int.eq_ofNat_of_zero_le (show 0 ≤ c 7 by have := hr.room; omega)
  have C1 := Lib.hid (fun w' => blue_new lv bn (c 13) (c 14) (c 4) (c 5) w' (by have := hr.levels; omega) (by have := hr.levels; omega) (by have := hr.bins; omega) (by have := hr.bins; omega) hr.target.1 hr.target.2 hr.up.1 hr.up.2 hr.down.1 hr.down.2 hr.hold.1 hr.hold.2)
  have C2 := Lib.hid (fun w' => window_new sl (c 15) (c 16) w' (by have := hr.slots; omega) (by have := hr.slots; omega) hr.window.1 hr.window.2 hr.thr.1 hr.thr.2)
  have C3 := Lib.hid (fun w' => box_new rm (c 17) (c 18) (c 19) w' (by have := hr.room; omega) (by have := hr.room; omega) hr.term.1 hr.term.2 hr.rate.1 hr.rate.2 hr.burst.1 hr.burst.2)
  have HC : Hid (∀ w' : World, w'.heap[w.heap.size]? = some (.cells cv 26 (0, 0)) → w'.cell? ⟨w.heap.size, 2, none⟩ = some (.int .i64 (lv : Nat)) ∧ w'.cell? ⟨w.heap.size, 3, none⟩ = some (.int .i64 (bn : Nat)) ∧ w'.cell? ⟨w.heap.size, 13, none⟩ = some (.int .i64 (c 13)) ∧ w'.cell? ⟨w.heap.size, 14, none⟩ = some (.int .i64 (c 14)) ∧ w'.cell? ⟨w.heap.size, 4, none⟩ = some (.int .i64 (c 4)) ∧ w'.cell? ⟨w.heap.size, 5, none⟩ = some (.int .i64 (c 5))) := Lib.hid fun w' hb => by
    rw [← hlv, ← hbn]
    exact ⟨hv.cell hb 2 (by decide), hv.cell hb 3 (by decide), hv.cell hb 13 (by decide), hv.cell hb 14 (by decide), hv.cell hb 4 (by decide), hv.cell hb 5 (by decide)⟩
  have HD : Hid (∀ w' : World, w'.heap[w.heap.size]? = some (.cells cv 26 (0, 0)) → w'.cell? ⟨w.heap.size, 6, none⟩ = some (.int .i64 (sl : Nat)) ∧ w'.cell? ⟨w.heap.size, 15, none⟩ = some (.int .i64 (c 15)) ∧ w'.cell? ⟨w.heap.size, 16, none⟩ = some (.int .i64 (c 16)) ∧ w'.cell? ⟨w.heap.size, 7, none⟩ = some (.int .i64 (rm : Nat)) ∧ w'.cell? ⟨w.heap.size, 17, none⟩ = some (.int .i64 (c 17)) ∧ w'.cell? ⟨w.heap.size, 18, none⟩ = some (.int .i64 (c 18)) ∧ w'.cell? ⟨w.heap.size, 19, none⟩ = some (.int .i64 (c 19))) := Lib.hid fun w' hb => by
    rw [← hsl, ← hrm]
    exact ⟨hv.cell hb 6 (by decide), hv.cell hb 15 (by decide), hv.cell hb 16 (by decide), hv.cell hb 7 (by decide), hv.cell hb 17 (by decide), hv.cell hb 18 (by decide), hv.cell hb 19 (by decide)⟩
  clear hlv hbn hsl hrm hv hr
  go_enter Tryz.func119, Tryz.ntmps119
  go_upto_region 1 with ((with_reducible refine arm_box 1 0 26 cv ?_ ?_); rfl; intro w1 HB HX HS)
  obtain ⟨c2, c3, c13, c14, c4, c5⟩ := HC.out _ HX.out
  go_wp2_with fail
  refine (C1.out _).mono ?_
  rintro e w2 ⟨rfl, _, hB2⟩
  obtain ⟨d6, d15, d16, d7, d17, d18, d19⟩ := HD.out _ (keep_block hB2 HX.out)
  have HX2 := Lib.hid (keep_block hB2 HX.out)
  have HB2 := Lib.hid (HB.out.trans (hB2.mono HB.out.size))
  clear hB2 HB HX HS c2 c3 c13 c14 c4 c5 C1 HC
  go_wp2_with fail
  refine (C2.out _).mono ?_
  rintro e w3 ⟨_, _, _, rfl, _, _, hB3⟩
  clear d6 d15 d16 d7 d17 d18 d19
  obtain ⟨d6, d15, d16, d7, d17, d18, d19⟩ := HD.out _ (keep_block hB3 HX2.out)
  have HB3 := Lib.hid (HB2.out.trans (hB3.mono HB2.out.size))
  clear hB3 HB2 HX2
  go_wp2_with fail
  refine (C3.out _).mono ?_
  rintro e w4 ⟨_, _, _, rfl, _, _, hB4⟩
  have HB4 := Lib.hid (HB3.out.trans (hB4.mono HB3.out.size))
  clear hB4 HB3 d6 d15 d16 d7 d17 d18 d19
  go_wp2
  go_ret
  exact ⟨rfl, HB4.out⟩
set_option maxRecDepth 100000 in
theorem config_right (cv : Array Value) (c : Nat → Int) (w : World) (hv : Cfg cv c) (hr : RightC c) :
    Calls Tryz.prog 58 #[.agg cv] w fun e w' => e = .returned (.bool true) ∧ Below w.heap.size w w' := by
  have CP := Lib.hid (fun w' => config_parts cv c w' hv hr)
  have C0 := Lib.hid (fun w' => config_in (c 0) 1 64 w' hr.buckets.1 hr.buckets.2)
  have C1 := Lib.hid (fun w' => config_in (c 1) 1 4096 w' hr.packets.1 hr.packets.2)
  have C8 := Lib.hid (fun w' => config_in (c 8) 9216 1073741824 w' hr.quantum.1 hr.quantum.2)
  have C11 := Lib.hid (fun w' => config_in (c 11) 1 1000000 w' hr.ns.1 hr.ns.2)
  have C9 := Lib.hid (fun w' => config_in (c 9) 0 1073741824 w' hr.reserve.1 hr.reserve.2)
  have C10 := Lib.hid (fun w' => config_in (c 10) 0 1073741824 w' hr.shared.1 hr.shared.2)
  have C12 := Lib.hid (fun w' => config_in (c 12) 0 1073741824 w' hr.choke.1 hr.choke.2)
  have HV := Lib.hid hv
  clear hv hr
  go_enter Tryz.func58, Tryz.ntmps58
  go_upto_region 1 with ((with_reducible refine arm_box 1 0 26 cv ?_ ?_); rfl; intro w1 HB HX HS)
  have c0 := HV.out.cell HX.out 0 (by decide)
  have c1 := HV.out.cell HX.out 1 (by decide)
  have c8 := HV.out.cell HX.out 8 (by decide)
  have c11 := HV.out.cell HX.out 11 (by decide)
  have c9 := HV.out.cell HX.out 9 (by decide)
  have c10 := HV.out.cell HX.out 10 (by decide)
  have c12 := HV.out.cell HX.out 12 (by decide)
  have hld := cfg_load HX.out HV.out
  go_wp2_with fail
  refine (C0.out _).mono ?_
  rintro e w2 ⟨rfl, rfl⟩
  go_wp2_with fail
  refine (C1.out _).mono ?_
  rintro e w3 ⟨rfl, rfl⟩
  go_wp2_with fail
  refine (C8.out _).mono ?_
  rintro e w4 ⟨rfl, rfl⟩
  go_wp2_with fail
  refine (C11.out _).mono ?_
  rintro e w5 ⟨rfl, rfl⟩
  go_wp2_with fail
  refine (C9.out _).mono ?_
  rintro e w6 ⟨rfl, rfl⟩
  go_wp2_with fail
  refine (C10.out _).mono ?_
  rintro e w7 ⟨rfl, rfl⟩
  go_wp2_with fail
  refine (C12.out _).mono ?_
  rintro e w8 ⟨rfl, rfl⟩
  go_wp2_with ((with_reducible refine arm_loadg 39 1 26 (.pointer (some ⟨w.heap.size, 0, none⟩)) (.agg cv) hld ?_ ?_ ?_); rfl; rfl)
  refine (CP.out _).mono ?_
  rintro e w9 ⟨rfl, hB9⟩
  have HB9 := Lib.hid (HB.out.trans (hB9.mono HB.out.size))
  clear hB9 c0 c1 c8 c11 c9 c10 c12 hld
  go_wp2
  go_ret
  exact ⟨rfl, HB9.out⟩
end Go.Proofs.YtpanmfdbdgecaaaGreat.C
