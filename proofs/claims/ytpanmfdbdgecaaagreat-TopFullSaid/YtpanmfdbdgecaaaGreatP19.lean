/- The box: it is full. · The police: Arrive of somebody who is in the box. (Printed by arrivein.py.) · The police: who is the first in the box, and is let send. · The law TopFull: what waits, what is counted, who is in the box. · The engine of TopEnds: what it has at the beginning of a round, and while somebody is in the box. -/
import Derived.Test.YtpanmfdbdgecaaaGreatP18
namespace Go.Proofs.YtpanmfdbdgecaaaGreat.C
open Go.RowKit
set_option linter.unusedVariables false
set_option maxRecDepth 100000 in
set_option maxHeartbeats 2000000 in
theorem box_full (xb pb b room : Nat) (l l' : List Plc) (nn nn' term rate burst now : Int) (s : Int) (p0 p1 p2 : Nat) (w : World) (h : BxAt w xb pb b l room nn term rate burst) (hs : Sweeps xb pb b room l nn term rate burst now l' nn') (hg : Gets l' p0 p1 p2 0 none false) (hat : at1 l' p0 p1 p2 = (-1, s)) (hnr : nn' = room) (hr : 0 ≤ rate ∧ rate ≤ 1073741824) (hbu : 1 ≤ burst ∧ burst ≤ 1073741824) (hnow : 0 ≤ now ∧ now ≤ 4611686018427387904) :
    Calls Tryz.prog 39 #[.pointer (some ⟨xb, 0, none⟩), .agg (pfx p0 p1 p2), .int .i64 now] w fun e w' => e = .returned (.int .i64 6) ∧ BxAt w' xb pb b l' room nn' term rate burst ∧ Two pb b w w' := by
  have HS := Lib.hid hs
  have HH := Lib.hid h
  have hcg := fun (w' : World) (q : TbAt w' pb b l' room nn') => table_get hg w' q
  have HCG := Lib.hid hcg
  have hcp := fun (til : Int) (tok : Option Nat) (w' : World) (q : TbAt w' pb b l' room nn') => table_full pb b room l' nn' p0 p1 p2 s til tok w' q hg.fl hg.b0.1 hg.b0.2.1 hg.b0.2.2 hg.len.1 hg.len.2 hat hnr
  have HCP := Lib.hid hcp
  have hps : (Tryz.prog.info? 65).map (·.size) = some (pfx p0 p1 p2).size := pf_size
  have HPS := Lib.hid hps
  have CA := Lib.hid (num_add now term)
  have CN := Lib.hid (fun w' => token_new rate burst w' hr.1 hr.2 hbu.1 hbu.2)
  clear h hg hcg hs hps hcp hat
  generalize pfx p0 p1 p2 = p at *
  obtain ⟨til, htil⟩ : ∃ x, x = (0 : Int) := ⟨_, rfl⟩
  obtain ⟨tk, htk⟩ : ∃ x, x = (none : Option Addr) := ⟨_, rfl⟩
  obtain ⟨ok, hok⟩ : ∃ x, x = false := ⟨_, rfl⟩
  rw [← htil, ← htk, ← hok] at HCG
  clear htil htk
  subst hok
  generalize addC now term = su at *
  go_enter Tryz.func39, Tryz.ntmps39
  go_upto_region 1 with ((with_reducible refine arm_box 4 1 65 p ?_ ?_); rfl; intro w1 HB HX HS1)
  have CS := Lib.hid (HS.out w1 (HH.out.below HB.out))
  go_wp2_with fail
  refine CS.out.mono ?_
  rintro e w2 ⟨rfl, hX2, hT2⟩
  have h1 := HH.out.below HB.out
  have n1 := ne_ty HX.out h1.tb.ptr (by decide)
  have n2 := ne_ty HX.out h1.tb.row (by decide)
  have P2 := Lib.hid ((hT2.block _ (Array.getElem?_eq_some_iff.1 HX.out).1 n1 n2).trans HX.out)
  have T2 := Lib.hid (two_ofB (x := pb) (y := b) HB.out |>.trans hT2)
  have HX2 := Lib.hid hX2
  clear hX2 hT2 h1 n1 n2 CS HX HS1 HB
  have HL : Hid (∀ w', Below w2.heap.size w2 w' → w'.cell? ⟨xb, 0, none⟩ = some (.pointer (some ⟨pb, 0, none⟩)) ∧ (Instr.loadAt 65 (.pointer (some ⟨w.heap.size, 0, none⟩))).run Tryz.prog w' = .ok (.agg p) w') := Lib.hid fun w' q => ⟨(HX2.out.below q).cells.1, box_load (t := 65) (keep_block q P2.out) _ Tryz.underlying65 rfl HPS.out⟩
  have CG : Hid (∀ w', Below w2.heap.size w2 w' → Calls Tryz.prog 69 #[.pointer (some ⟨pb, 0, none⟩), .agg p] w' fun e w'' => e = .returned (.tuple #[.agg #[.int .i64 til, .pointer tk], .bool false]) ∧ Below w'.heap.size w' w'') := Lib.hid fun w' q => HCG.out w' (HX2.out.below q).tb
  go_wp2_with fail
  refine wp_region_held_drew (S := Below w2.heap.size w2) (by kernel_rfl) (Below.refl _ _).drew (fun hHeld => ?_)
  refine wpAnyH_take (i := 0) (oi := ⟨some 15, _, _, _, _, _⟩) (v := ?_) rfl (by kernel_rfl) (by kernel_rfl) (by kernel_rfl) (fun _ _ _ h => h) (Or.inl ⟨by rfl, ?_⟩) hHeld ?_
  rotate_left
  · intro w hSw
    go_simp
    try with_reducible rfl
  try simp only [Act.put, List.setIfInBounds_toArray, List.set_cons_zero, List.set_cons_succ]
  refine wpAnyH_take (i := 1) (oi := ⟨some 16, _, _, _, _, _⟩) (v := ?_) rfl (by kernel_rfl) (by kernel_rfl) (by kernel_rfl) (fun _ _ _ h => h) (Or.inl ⟨by rfl, ?_⟩) hHeld ?_
  rotate_left
  · intro w hSw
    go_simp
    try with_reducible rfl
  try simp only [Act.put, List.setIfInBounds_toArray, List.set_cons_zero, List.set_cons_succ]
  refine wpAnyH_take (i := 2) (oi := ⟨some 17, _, _, _, _, _⟩) (v := ?_) rfl (by kernel_rfl) (by kernel_rfl) (by kernel_rfl) (fun _ _ _ h => h) (Or.inl ⟨by rfl, ?_⟩) hHeld ?_
  rotate_left
  · intro w hSw
    go_simp
    try with_reducible rfl
  try simp only [Act.put, List.setIfInBounds_toArray, List.set_cons_zero, List.set_cons_succ]
  refine wpAnyH_take (i := 3) (oi := ⟨some 18, _, _, _, _, _⟩) (v := ?_) rfl (by kernel_rfl) (by kernel_rfl) (by kernel_rfl) (fun _ _ _ h => h) (Or.inl ⟨by rfl, ?_⟩) hHeld ?_
  rotate_left
  · intro w hSw
    obtain ⟨k0, _⟩ := HL.out w hSw
    go_simp
    try with_reducible rfl
  try simp only [Act.put, List.setIfInBounds_toArray, List.set_cons_zero, List.set_cons_succ]
  refine wpAnyH_take (i := 4) (oi := ⟨some 19, _, _, _, _, _⟩) (v := .agg p) rfl (by kernel_rfl) (by kernel_rfl) (by kernel_rfl) (fun _ _ _ h => h) (Or.inl ⟨by rfl, fun w hSw => exec_load rfl (HL.out w hSw).2⟩) hHeld ?_
  try simp only [Act.put, List.setIfInBounds_toArray, List.set_cons_zero, List.set_cons_succ]
  refine wpAnyH_ready (rs := [5, 9]) (by kernel_rfl) (by simp) ?_
  refine AllReadyH.cons rfl (fun K hK => ?_) (AllReadyH.cons rfl (fun K hK => ?_) AllReadyH.nil)
  · skip
    go_simp
    go_wp2_with (go_at_call 69; go_must (refine (CG.out _ hHeld).mono ?_; rintro e w5 ⟨rfl, hB⟩))
    refine hK.out _ _ (hHeld.trans (hB.mono hHeld.size)) (fun hHeld => ?_)
    clear hK K
    refine wpAnyH_take (i := 6) (oi := ⟨some 14, _, _, _, _, _⟩) (v := ?_) rfl (by kernel_rfl) (by kernel_rfl) (by kernel_rfl) (fun _ _ _ h => h) (Or.inl ⟨by rfl, ?_⟩) hHeld ?_
    rotate_left
    · intro w hSw
      go_simp
      try with_reducible rfl
    try simp only [Act.put, List.setIfInBounds_toArray, List.set_cons_zero, List.set_cons_succ]
    refine wpAnyH_take (i := 7) (oi := ⟨some 21, _, _, _, _, _⟩) (v := ?_) rfl (by kernel_rfl) (by kernel_rfl) (by kernel_rfl) (fun _ _ _ h => h) (Or.inl ⟨by rfl, ?_⟩) hHeld ?_
    rotate_left
    · intro w hSw
      go_simp
      try with_reducible rfl
    try simp only [Act.put, List.setIfInBounds_toArray, List.set_cons_zero, List.set_cons_succ]
    refine wpAnyH_take (i := 8) (oi := ⟨some 22, _, _, _, _, _⟩) (v := ?_) rfl (by kernel_rfl) (by kernel_rfl) (by kernel_rfl) (fun _ _ _ h => h) (Or.inl ⟨by rfl, ?_⟩) hHeld ?_
    rotate_left
    · intro w hSw
      go_simp
      try with_reducible rfl
    try simp only [Act.put, List.setIfInBounds_toArray, List.set_cons_zero, List.set_cons_succ]
    refine wpAnyH_ready (rs := [9]) (by kernel_rfl) (by simp) ?_
    refine AllReadyH.cons rfl (fun K hK => ?_) AllReadyH.nil
    have hS9 := hHeld.size; refine step_alloc 7 199 EZ 2 ez_zero ?_; intro W9 HB9 HX9 HS9
    refine hK.out _ _ (hHeld.trans (HB9.out.mono hHeld.size)) (fun hHeld => ?_)
    clear hK K
    refine wpAnyH_ready (rs := [10]) (by kernel_rfl) (by simp) ?_
    refine AllReadyH.cons rfl (fun K hK => ?_) AllReadyH.nil
    have HBX := Lib.hid (box_whole (cs := #[.int .i64 til, .pointer tk]) HX9.out rfl); refine step_store 7 21 199 _ _ _ (box_store (x := #[.int .i64 til, .pointer tk]) HX9.out ent_size (by kernel_rfl) rfl) rfl rfl ?_
    refine hK.out _ _ (below_setCells hS9 _ _ hHeld) (fun hHeld => ?_)
    clear hK K
    refine wpAnyH_take (i := 11) (oi := ⟨some 8, _, _, _, _, _⟩) (v := ?_) rfl (by kernel_rfl) (by kernel_rfl) (by kernel_rfl) (fun _ _ _ h => h) (Or.inl ⟨by rfl, ?_⟩) hHeld ?_
    rotate_left
    · intro w hSw
      go_simp
      try with_reducible rfl
    try simp only [Act.put, List.setIfInBounds_toArray, List.set_cons_zero, List.set_cons_succ]
    refine wpAnyH_done (by kernel_rfl) ?_ _
    have HE := Lib.hid hHeld
    clear hHeld
    try simp only [Act.put, List.setIfInBounds_toArray, List.set_cons_zero, List.set_cons_succ]
    generalize World.setCells _ _ 0 (#[.int .i64 til, .pointer tk] : Array Value).toList = wE at *
    have kt := (HX2.out.below HE.out).cells.2.1
    clear HBX
    go_wp2_with fail
    refine (CA.out wE.heap.size _ (new_c0 wE _ _ 2) (new_c1 wE _ _ 2)).mono ?_
    rintro e w6 ⟨rfl, rfl⟩
    have B7 := Lib.hid (HE.out.alloc HE.out.size (.cells #[.int .i64 now, .int .i64 term] 2))
    clear kt HE
    generalize wE.alloc (.cells #[.int .i64 now, .int .i64 term] 2) = w7 at *
    have hbe := build_ent su w7
    have hs7 := B7.out.size
    go_upto_region 7 with (first
      | ((with_reducible refine arm_build 31 199 _ #[(0, .int .i64 su)] (.agg #[.int .i64 su, .pointer none]) hbe ?_ ?_); simp [Act.eval])
      | ((with_reducible refine arm_alloc 9 199 EZ 2 ez_zero ?_); intro w8 HB8 HX8 HS8; have hst := box_store (t := 199) (x := #[.int .i64 su, .pointer none]) HX8.out ent_size (by kernel_rfl) rfl; have hbx := Lib.hid (box_whole (cs := #[.int .i64 su, .pointer none]) HX8.out rfl); have hf8 := Lib.hid (below_setCells (b := w7.heap.size) (Nat.le_refl _) (#[.int .i64 su, .pointer none] : Array Value).toList 0 HB8.out))
      | ((with_reducible refine arm_store 9 31 199 _ _ _ hst ?_ ?_ ?_); rfl; rfl))
    have B9 := Lib.hid (B7.out.trans (hf8.out.mono hs7))
    have E9 := Lib.hid hbx.out
    clear hst hbe hbx hf8 HX8 HB8 HS8
    generalize World.setCells w8 _ 0 (#[.int .i64 su, .pointer none] : Array Value).toList = w9 at *
    generalize w7.heap.size = eb at *
    have hlte := (Array.getElem?_eq_some_iff.1 E9.out).1
    have X9 := Lib.hid (HX2.out.below B9.out)
    have hxe := ne_ty X9.out.ptr E9.out (by decide)
    have HL3 : Hid (∀ w', Two eb eb w9 w' → w'.cell? ⟨xb, 2, none⟩ = some (.int .i64 rate) ∧ w'.cell? ⟨xb, 3, none⟩ = some (.int .i64 burst)) := Lib.hid fun w' q => by
      have a1 := (q.block xb (Array.getElem?_eq_some_iff.1 X9.out.ptr).1 hxe hxe).trans X9.out.ptr
      exact ⟨cells_of_row a1 2 _ rfl, cells_of_row a1 3 _ rfl⟩
    go_wp2_with fail
    refine wp_region_held_drew (S := Two eb eb w9) (by kernel_rfl) ((Two.refl eb eb w9).drewN 1) (fun hHeld => ?_)
    refine wpAnyH_take (i := 0) (oi := ⟨some 33, _, _, _, _, _⟩) (v := ?_) rfl (by kernel_rfl) (by kernel_rfl) (by kernel_rfl) (fun _ _ _ h => h) (Or.inl ⟨by rfl, ?_⟩) hHeld ?_
    rotate_left
    · intro w hSw
      go_simp
      try with_reducible rfl
    try simp only [Act.put, List.setIfInBounds_toArray, List.set_cons_zero, List.set_cons_succ]
    refine wpAnyH_take (i := 1) (oi := ⟨some 34, _, _, _, _, _⟩) (v := ?_) rfl (by kernel_rfl) (by kernel_rfl) (by kernel_rfl) (fun _ _ _ h => h) (Or.inl ⟨by rfl, ?_⟩) hHeld ?_
    rotate_left
    · intro w hSw
      go_simp
      try with_reducible rfl
    try simp only [Act.put, List.setIfInBounds_toArray, List.set_cons_zero, List.set_cons_succ]
    refine wpAnyH_take (i := 2) (oi := ⟨some 35, _, _, _, _, _⟩) (v := ?_) rfl (by kernel_rfl) (by kernel_rfl) (by kernel_rfl) (fun _ _ _ h => h) (Or.inl ⟨by rfl, ?_⟩) hHeld ?_
    rotate_left
    · intro w hSw
      go_simp
      try with_reducible rfl
    try simp only [Act.put, List.setIfInBounds_toArray, List.set_cons_zero, List.set_cons_succ]
    refine wpAnyH_take (i := 3) (oi := ⟨some 36, _, _, _, _, _⟩) (v := ?_) rfl (by kernel_rfl) (by kernel_rfl) (by kernel_rfl) (fun _ _ _ h => h) (Or.inl ⟨by rfl, ?_⟩) hHeld ?_
    rotate_left
    · intro w hSw
      obtain ⟨k2, k3⟩ := HL3.out w hSw
      go_simp
      try with_reducible rfl
    try simp only [Act.put, List.setIfInBounds_toArray, List.set_cons_zero, List.set_cons_succ]
    refine wpAnyH_take (i := 4) (oi := ⟨some 37, _, _, _, _, _⟩) (v := ?_) rfl (by kernel_rfl) (by kernel_rfl) (by kernel_rfl) (fun _ _ _ h => h) (Or.inl ⟨by rfl, ?_⟩) hHeld ?_
    rotate_left
    · intro w hSw
      go_simp
      try with_reducible rfl
    try simp only [Act.put, List.setIfInBounds_toArray, List.set_cons_zero, List.set_cons_succ]
    refine wpAnyH_take (i := 5) (oi := ⟨some 38, _, _, _, _, _⟩) (v := ?_) rfl (by kernel_rfl) (by kernel_rfl) (by kernel_rfl) (fun _ _ _ h => h) (Or.inl ⟨by rfl, ?_⟩) hHeld ?_
    rotate_left
    · intro w hSw
      go_simp
      try with_reducible rfl
    try simp only [Act.put, List.setIfInBounds_toArray, List.set_cons_zero, List.set_cons_succ]
    refine wpAnyH_take (i := 6) (oi := ⟨some 39, _, _, _, _, _⟩) (v := ?_) rfl (by kernel_rfl) (by kernel_rfl) (by kernel_rfl) (fun _ _ _ h => h) (Or.inl ⟨by rfl, ?_⟩) hHeld ?_
    rotate_left
    · intro w hSw
      go_simp
      try with_reducible rfl
    try simp only [Act.put, List.setIfInBounds_toArray, List.set_cons_zero, List.set_cons_succ]
    refine wpAnyH_take (i := 7) (oi := ⟨some 40, _, _, _, _, _⟩) (v := ?_) rfl (by kernel_rfl) (by kernel_rfl) (by kernel_rfl) (fun _ _ _ h => h) (Or.inl ⟨by rfl, ?_⟩) hHeld ?_
    rotate_left
    · intro w hSw
      obtain ⟨k2, k3⟩ := HL3.out w hSw
      go_simp
      try with_reducible rfl
    try simp only [Act.put, List.setIfInBounds_toArray, List.set_cons_zero, List.set_cons_succ]
    refine wpAnyH_ready (rs := [8]) (by kernel_rfl) (by simp) ?_
    refine AllReadyH.cons rfl (fun K hK => ?_) AllReadyH.nil
    go_simp
    go_wp2_with (go_at_call 70; go_must (refine (CN.out _).mono ?_; rintro e w8 ⟨rfl, hTk, hB, _⟩))
    refine hK.out _ _ (two_next hHeld hB) (fun hHeld => ?_)
    clear hK K
    have E10 : _ = some (Obj.cells #[.int .i64 su, .pointer none] 199 (0, 0)) := keep_block hB (show w9.drew.heap[eb]? = _ from E9.out)
    have e1 : w8.cell? ⟨eb, 1, none⟩ = some (.pointer none) := cells_of_row E10 1 _ rfl
    have g1 := frozen_of_row _ _ 1 _ _ E10
    refine wpAnyH_take (i := 9) (oi := ⟨some 32, _, _, _, _, _⟩) (v := ?_) rfl (by kernel_rfl) (by kernel_rfl) (by kernel_rfl) (fun _ _ _ h => h) (Or.inl ⟨by rfl, ?_⟩) hHeld ?_
    rotate_left
    · intro w hSw
      go_simp
      try with_reducible rfl
    try simp only [Act.put, List.setIfInBounds_toArray, List.set_cons_zero, List.set_cons_succ]
    refine wpAnyH_take (i := 10) (oi := ⟨some 42, _, _, _, _, _⟩) (v := ?_) rfl (by kernel_rfl) (by kernel_rfl) (by kernel_rfl) (fun _ _ _ h => h) (Or.inl ⟨by rfl, ?_⟩) hHeld ?_
    rotate_left
    · intro w hSw
      go_simp
      try with_reducible rfl
    try simp only [Act.put, List.setIfInBounds_toArray, List.set_cons_zero, List.set_cons_succ]
    refine wpAnyH_take (i := 11) (oi := ⟨some 43, _, _, _, _, _⟩) (v := ?_) rfl (by kernel_rfl) (by kernel_rfl) (by kernel_rfl) (fun _ _ _ h => h) (Or.inl ⟨by rfl, ?_⟩) hHeld ?_
    rotate_left
    · intro w hSw
      go_simp
      try with_reducible rfl
    try simp only [Act.put, List.setIfInBounds_toArray, List.set_cons_zero, List.set_cons_succ]
    refine wpAnyH_take (i := 12) (oi := ⟨some 44, _, _, _, _, _⟩) (v := ?_) rfl (by kernel_rfl) (by kernel_rfl) (by kernel_rfl) (fun _ _ _ h => h) (Or.inl ⟨by rfl, ?_⟩) hHeld ?_
    rotate_left
    · intro w hSw
      go_simp
      try with_reducible rfl
    try simp only [Act.put, List.setIfInBounds_toArray, List.set_cons_zero, List.set_cons_succ]
    refine wpAnyH_ready (rs := [13]) (by kernel_rfl) (by simp) ?_
    refine AllReadyH.cons rfl (fun K hK => ?_) AllReadyH.nil
    go_simp
    refine hK.out _ _ (hHeld.setCell (x := ⟨eb, 1, none⟩) (.inl rfl) _) (fun hHeld => ?_)
    clear hK K
    refine wpAnyH_done (by kernel_rfl) ?_ _
    obtain ⟨tb, htb⟩ : ∃ tb, tb = w9.heap.size := ⟨_, rfl⟩
    have hTk' : TkAt w8 w9.heap.size rate (burst * 1048576) (burst * 1048576) 0 := hTk
    have hB' : Below w9.heap.size w9 w8 := ((Below.refl w9.heap.size w9).drew).trans (show Below w9.heap.size w9.drew w8 from hB)
    rw [← htb] at hTk' ⊢
    have E11 : (w8.setCell ⟨eb, 1, none⟩ (.pointer (some ⟨tb, 0, none⟩))).heap[eb]? = some (.cells #[.int .i64 su, .pointer (some ⟨tb, 0, none⟩)] 199 (0, 0)) := heap_setCell_same _ _ 1 _ _ _ E10
    have B11 : Below w2.heap.size w2 (w8.setCell ⟨eb, 1, none⟩ (.pointer (some ⟨tb, 0, none⟩))) := (B9.out.trans (hB'.mono B9.out.size)).setCell (p := ⟨eb, 1, none⟩) hs7 _
    have TK11 : TkAt (w8.setCell ⟨eb, 1, none⟩ (.pointer (some ⟨tb, 0, none⟩))) tb rate (burst * 1048576) (burst * 1048576) 0 := by
      unfold TkAt
      rw [heap_setCell_other _ _ _ _ (show tb ≠ eb by omega)]
      exact hTk'
    have hnt : eb ≠ tb := by omega
    have htle : w2.heap.size ≤ tb := by omega
    clear hTk hTk' hB hB' hHeld e1 g1 E10 htb
    generalize w8.setCell ⟨eb, 1, none⟩ (.pointer (some ⟨tb, 0, none⟩)) = w11 at *
    have CT := Lib.hid (token_take tb rate (burst * 1048576) (burst * 1048576) 0 now 0 w11 TK11 (by omega) hnow.1 hnow.2 (by omega) (by omega))
    rw [levelT_full (by omega)] at CT
    have htt : takesT (burst * 1048576) 0 = true := by
      unfold takesT
      exact decide_eq_true (by omega)
    rw [htt] at CT
    have e1 : w11.cell? ⟨eb, 1, none⟩ = some (.pointer (some ⟨tb, 0, none⟩)) := cells_of_row E11 1 _ rfl
    have HE11 := Lib.hid E11
    have HB11 := Lib.hid B11
    clear E11 B11 TK11 htt
    go_wp2_with fail
    refine CT.out.mono ?_
    rintro e w12 ⟨rfl, hTk, hT12⟩
    have hnow2 : (if (0 : Int) < now then now else 0) = now := by split <;> omega
    rw [hnow2] at hTk
    have hTk' : TkAt w12 tb rate (burst * 1048576) (burst * 1048576) now := by
      simpa using hTk
    have B12 := Lib.hid (two_below HB11.out hT12 htle HB11.out.size)
    have E12 := Lib.hid ((hT12.block eb (Array.getElem?_eq_some_iff.1 HE11.out).1 hnt hnt).trans HE11.out)
    have TK12 := Lib.hid hTk'
    clear hTk hTk' hT12 CT e1 hnow2
    have X12 := Lib.hid (HX2.out.below B12.out)
    have P12 := Lib.hid (keep_block B12.out P2.out)
    have HL4 : Hid (∀ w', Below w12.heap.size w12 w' → w'.cell? ⟨xb, 0, none⟩ = some (.pointer (some ⟨pb, 0, none⟩)) ∧ (Instr.loadAt 65 (.pointer (some ⟨w.heap.size, 0, none⟩))).run Tryz.prog w' = .ok (.agg p) w' ∧ (Instr.loadAt 199 (.pointer (some ⟨eb, 0, none⟩))).run Tryz.prog w' = .ok (.agg #[.int .i64 su, .pointer (some ⟨tb, 0, none⟩)]) w') := Lib.hid fun w' q =>
      ⟨(X12.out.below q).cells.1, box_load (t := 65) (keep_block q P12.out) _ Tryz.underlying65 rfl HPS.out, box_load (t := 199) (keep_block q E12.out) _ Tryz.underlying199 rfl ent_size⟩
    have CPT : Hid (Calls Tryz.prog 72 #[.pointer (some ⟨pb, 0, none⟩), .agg p, .agg #[.int .i64 su, .pointer (some ⟨tb, 0, none⟩)]] w12.drew fun e w' => e = .returned (.bool false) ∧ Below w12.drew.heap.size w12.drew w') := Lib.hid (HCP.out su (some tb) w12.drew X12.out.tb.drew)
    go_wp2_with fail
    refine wp_region_held_drew (S := Below w12.heap.size w12) (by kernel_rfl) (Below.refl _ _).drew (fun hHeld => ?_)
    refine wpAnyH_take (i := 0) (oi := ⟨some 49, _, _, _, _, _⟩) (v := ?_) rfl (by kernel_rfl) (by kernel_rfl) (by kernel_rfl) (fun _ _ _ h => h) (Or.inl ⟨by rfl, ?_⟩) hHeld ?_
    rotate_left
    · intro w hSw
      go_simp
      try with_reducible rfl
    try simp only [Act.put, List.setIfInBounds_toArray, List.set_cons_zero, List.set_cons_succ]
    refine wpAnyH_take (i := 1) (oi := ⟨some 50, _, _, _, _, _⟩) (v := ?_) rfl (by kernel_rfl) (by kernel_rfl) (by kernel_rfl) (fun _ _ _ h => h) (Or.inl ⟨by rfl, ?_⟩) hHeld ?_
    rotate_left
    · intro w hSw
      go_simp
      try with_reducible rfl
    try simp only [Act.put, List.setIfInBounds_toArray, List.set_cons_zero, List.set_cons_succ]
    refine wpAnyH_take (i := 2) (oi := ⟨some 51, _, _, _, _, _⟩) (v := ?_) rfl (by kernel_rfl) (by kernel_rfl) (by kernel_rfl) (fun _ _ _ h => h) (Or.inl ⟨by rfl, ?_⟩) hHeld ?_
    rotate_left
    · intro w hSw
      go_simp
      try with_reducible rfl
    try simp only [Act.put, List.setIfInBounds_toArray, List.set_cons_zero, List.set_cons_succ]
    refine wpAnyH_take (i := 3) (oi := ⟨some 52, _, _, _, _, _⟩) (v := ?_) rfl (by kernel_rfl) (by kernel_rfl) (by kernel_rfl) (fun _ _ _ h => h) (Or.inl ⟨by rfl, ?_⟩) hHeld ?_
    rotate_left
    · intro w hSw
      obtain ⟨k0, _, _⟩ := HL4.out w hSw
      go_simp
      try with_reducible rfl
    try simp only [Act.put, List.setIfInBounds_toArray, List.set_cons_zero, List.set_cons_succ]
    refine wpAnyH_take (i := 4) (oi := ⟨some 53, _, _, _, _, _⟩) (v := .agg p) rfl (by kernel_rfl) (by kernel_rfl) (by kernel_rfl) (fun _ _ _ h => h) (Or.inl ⟨by rfl, fun w hSw => exec_load rfl (HL4.out w hSw).2.1⟩) hHeld ?_
    try simp only [Act.put, List.setIfInBounds_toArray, List.set_cons_zero, List.set_cons_succ]
    refine wpAnyH_take (i := 5) (oi := ⟨some 54, _, _, _, _, _⟩) (v := .agg #[.int .i64 su, .pointer (some ⟨tb, 0, none⟩)]) rfl (by kernel_rfl) (by kernel_rfl) (by kernel_rfl) (fun _ _ _ h => h) (Or.inl ⟨by rfl, fun w hSw => exec_load rfl (HL4.out w hSw).2.2⟩) hHeld ?_
    try simp only [Act.put, List.setIfInBounds_toArray, List.set_cons_zero, List.set_cons_succ]
    refine wpAnyH_ready (rs := [6]) (by kernel_rfl) (by simp) ?_
    refine AllReadyH.cons rfl (fun K hK => ?_) AllReadyH.nil
    go_simp
    go_wp2_with (go_at_call 72; go_must (refine (CPT.out).mono ?_; rintro e w6 ⟨rfl, h2⟩))
    refine hK.out _ _ (hHeld.trans (h2.mono hHeld.size)) (fun hHeld => ?_)
    clear hK K
    refine wpAnyH_take (i := 7) (oi := ⟨some 56, _, _, _, _, _⟩) (v := ?_) rfl (by kernel_rfl) (by kernel_rfl) (by kernel_rfl) (fun _ _ _ h => h) (Or.inl ⟨by rfl, ?_⟩) hHeld ?_
    rotate_left
    · intro w hSw
      go_simp
      try with_reducible rfl
    try simp only [Act.put, List.setIfInBounds_toArray, List.set_cons_zero, List.set_cons_succ]
    refine wpAnyH_done (by kernel_rfl) ?_ _
    have H2 := Lib.hid hHeld
    clear h2 hHeld
    go_wp2
    go_ret
    exact ⟨rfl, X12.out.below H2.out, (T2.out.trans (two_ofB B12.out)).trans (two_ofB H2.out)⟩
  · skip
    have hS9 := hHeld.size; refine step_alloc 7 199 EZ 2 ez_zero ?_; intro W9 HB9 HX9 HS9
    refine hK.out _ _ (hHeld.trans (HB9.out.mono hHeld.size)) (fun hHeld => ?_)
    clear hK K
    refine wpAnyH_ready (rs := [5]) (by kernel_rfl) (by simp) ?_
    refine AllReadyH.cons rfl (fun K hK => ?_) AllReadyH.nil
    go_simp
    go_wp2_with (go_at_call 69; go_must (refine (CG.out _ hHeld).mono ?_; rintro e w5 ⟨rfl, hB⟩))
    refine hK.out _ _ (hHeld.trans (hB.mono hHeld.size)) (fun hHeld => ?_)
    clear hK K
    have HX10 := Lib.hid (keep_block hB HX9.out)
    refine wpAnyH_take (i := 6) (oi := ⟨some 14, _, _, _, _, _⟩) (v := ?_) rfl (by kernel_rfl) (by kernel_rfl) (by kernel_rfl) (fun _ _ _ h => h) (Or.inl ⟨by rfl, ?_⟩) hHeld ?_
    rotate_left
    · intro w hSw
      go_simp
      try with_reducible rfl
    try simp only [Act.put, List.setIfInBounds_toArray, List.set_cons_zero, List.set_cons_succ]
    refine wpAnyH_take (i := 7) (oi := ⟨some 21, _, _, _, _, _⟩) (v := ?_) rfl (by kernel_rfl) (by kernel_rfl) (by kernel_rfl) (fun _ _ _ h => h) (Or.inl ⟨by rfl, ?_⟩) hHeld ?_
    rotate_left
    · intro w hSw
      go_simp
      try with_reducible rfl
    try simp only [Act.put, List.setIfInBounds_toArray, List.set_cons_zero, List.set_cons_succ]
    refine wpAnyH_take (i := 8) (oi := ⟨some 22, _, _, _, _, _⟩) (v := ?_) rfl (by kernel_rfl) (by kernel_rfl) (by kernel_rfl) (fun _ _ _ h => h) (Or.inl ⟨by rfl, ?_⟩) hHeld ?_
    rotate_left
    · intro w hSw
      go_simp
      try with_reducible rfl
    try simp only [Act.put, List.setIfInBounds_toArray, List.set_cons_zero, List.set_cons_succ]
    refine wpAnyH_ready (rs := [10]) (by kernel_rfl) (by simp) ?_
    refine AllReadyH.cons rfl (fun K hK => ?_) AllReadyH.nil
    have HBX := Lib.hid (box_whole (cs := #[.int .i64 til, .pointer tk]) HX10.out rfl); refine step_store 7 21 199 _ _ _ (box_store (x := #[.int .i64 til, .pointer tk]) HX10.out ent_size (by kernel_rfl) rfl) rfl rfl ?_
    refine hK.out _ _ (below_setCells hS9 _ _ hHeld) (fun hHeld => ?_)
    clear hK K
    refine wpAnyH_take (i := 11) (oi := ⟨some 8, _, _, _, _, _⟩) (v := ?_) rfl (by kernel_rfl) (by kernel_rfl) (by kernel_rfl) (fun _ _ _ h => h) (Or.inl ⟨by rfl, ?_⟩) hHeld ?_
    rotate_left
    · intro w hSw
      go_simp
      try with_reducible rfl
    try simp only [Act.put, List.setIfInBounds_toArray, List.set_cons_zero, List.set_cons_succ]
    refine wpAnyH_done (by kernel_rfl) ?_ _
    have HE := Lib.hid hHeld
    clear hHeld
    try simp only [Act.put, List.setIfInBounds_toArray, List.set_cons_zero, List.set_cons_succ]
    generalize World.setCells _ _ 0 (#[.int .i64 til, .pointer tk] : Array Value).toList = wE at *
    have kt := (HX2.out.below HE.out).cells.2.1
    clear HBX
    go_wp2_with fail
    refine (CA.out wE.heap.size _ (new_c0 wE _ _ 2) (new_c1 wE _ _ 2)).mono ?_
    rintro e w6 ⟨rfl, rfl⟩
    have B7 := Lib.hid (HE.out.alloc HE.out.size (.cells #[.int .i64 now, .int .i64 term] 2))
    clear kt HE
    generalize wE.alloc (.cells #[.int .i64 now, .int .i64 term] 2) = w7 at *
    have hbe := build_ent su w7
    have hs7 := B7.out.size
    go_upto_region 7 with (first
      | ((with_reducible refine arm_build 31 199 _ #[(0, .int .i64 su)] (.agg #[.int .i64 su, .pointer none]) hbe ?_ ?_); simp [Act.eval])
      | ((with_reducible refine arm_alloc 9 199 EZ 2 ez_zero ?_); intro w8 HB8 HX8 HS8; have hst := box_store (t := 199) (x := #[.int .i64 su, .pointer none]) HX8.out ent_size (by kernel_rfl) rfl; have hbx := Lib.hid (box_whole (cs := #[.int .i64 su, .pointer none]) HX8.out rfl); have hf8 := Lib.hid (below_setCells (b := w7.heap.size) (Nat.le_refl _) (#[.int .i64 su, .pointer none] : Array Value).toList 0 HB8.out))
      | ((with_reducible refine arm_store 9 31 199 _ _ _ hst ?_ ?_ ?_); rfl; rfl))
    have B9 := Lib.hid (B7.out.trans (hf8.out.mono hs7))
    have E9 := Lib.hid hbx.out
    clear hst hbe hbx hf8 HX8 HB8 HS8
    generalize World.setCells w8 _ 0 (#[.int .i64 su, .pointer none] : Array Value).toList = w9 at *
    generalize w7.heap.size = eb at *
    have hlte := (Array.getElem?_eq_some_iff.1 E9.out).1
    have X9 := Lib.hid (HX2.out.below B9.out)
    have hxe := ne_ty X9.out.ptr E9.out (by decide)
    have HL3 : Hid (∀ w', Two eb eb w9 w' → w'.cell? ⟨xb, 2, none⟩ = some (.int .i64 rate) ∧ w'.cell? ⟨xb, 3, none⟩ = some (.int .i64 burst)) := Lib.hid fun w' q => by
      have a1 := (q.block xb (Array.getElem?_eq_some_iff.1 X9.out.ptr).1 hxe hxe).trans X9.out.ptr
      exact ⟨cells_of_row a1 2 _ rfl, cells_of_row a1 3 _ rfl⟩
    go_wp2_with fail
    refine wp_region_held_drew (S := Two eb eb w9) (by kernel_rfl) ((Two.refl eb eb w9).drewN 1) (fun hHeld => ?_)
    refine wpAnyH_take (i := 0) (oi := ⟨some 33, _, _, _, _, _⟩) (v := ?_) rfl (by kernel_rfl) (by kernel_rfl) (by kernel_rfl) (fun _ _ _ h => h) (Or.inl ⟨by rfl, ?_⟩) hHeld ?_
    rotate_left
    · intro w hSw
      go_simp
      try with_reducible rfl
    try simp only [Act.put, List.setIfInBounds_toArray, List.set_cons_zero, List.set_cons_succ]
    refine wpAnyH_take (i := 1) (oi := ⟨some 34, _, _, _, _, _⟩) (v := ?_) rfl (by kernel_rfl) (by kernel_rfl) (by kernel_rfl) (fun _ _ _ h => h) (Or.inl ⟨by rfl, ?_⟩) hHeld ?_
    rotate_left
    · intro w hSw
      go_simp
      try with_reducible rfl
    try simp only [Act.put, List.setIfInBounds_toArray, List.set_cons_zero, List.set_cons_succ]
    refine wpAnyH_take (i := 2) (oi := ⟨some 35, _, _, _, _, _⟩) (v := ?_) rfl (by kernel_rfl) (by kernel_rfl) (by kernel_rfl) (fun _ _ _ h => h) (Or.inl ⟨by rfl, ?_⟩) hHeld ?_
    rotate_left
    · intro w hSw
      go_simp
      try with_reducible rfl
    try simp only [Act.put, List.setIfInBounds_toArray, List.set_cons_zero, List.set_cons_succ]
    refine wpAnyH_take (i := 3) (oi := ⟨some 36, _, _, _, _, _⟩) (v := ?_) rfl (by kernel_rfl) (by kernel_rfl) (by kernel_rfl) (fun _ _ _ h => h) (Or.inl ⟨by rfl, ?_⟩) hHeld ?_
    rotate_left
    · intro w hSw
      obtain ⟨k2, k3⟩ := HL3.out w hSw
      go_simp
      try with_reducible rfl
    try simp only [Act.put, List.setIfInBounds_toArray, List.set_cons_zero, List.set_cons_succ]
    refine wpAnyH_take (i := 4) (oi := ⟨some 37, _, _, _, _, _⟩) (v := ?_) rfl (by kernel_rfl) (by kernel_rfl) (by kernel_rfl) (fun _ _ _ h => h) (Or.inl ⟨by rfl, ?_⟩) hHeld ?_
    rotate_left
    · intro w hSw
      go_simp
      try with_reducible rfl
    try simp only [Act.put, List.setIfInBounds_toArray, List.set_cons_zero, List.set_cons_succ]
    refine wpAnyH_take (i := 5) (oi := ⟨some 38, _, _, _, _, _⟩) (v := ?_) rfl (by kernel_rfl) (by kernel_rfl) (by kernel_rfl) (fun _ _ _ h => h) (Or.inl ⟨by rfl, ?_⟩) hHeld ?_
    rotate_left
    · intro w hSw
      go_simp
      try with_reducible rfl
    try simp only [Act.put, List.setIfInBounds_toArray, List.set_cons_zero, List.set_cons_succ]
    refine wpAnyH_take (i := 6) (oi := ⟨some 39, _, _, _, _, _⟩) (v := ?_) rfl (by kernel_rfl) (by kernel_rfl) (by kernel_rfl) (fun _ _ _ h => h) (Or.inl ⟨by rfl, ?_⟩) hHeld ?_
    rotate_left
    · intro w hSw
      go_simp
      try with_reducible rfl
    try simp only [Act.put, List.setIfInBounds_toArray, List.set_cons_zero, List.set_cons_succ]
    refine wpAnyH_take (i := 7) (oi := ⟨some 40, _, _, _, _, _⟩) (v := ?_) rfl (by kernel_rfl) (by kernel_rfl) (by kernel_rfl) (fun _ _ _ h => h) (Or.inl ⟨by rfl, ?_⟩) hHeld ?_
    rotate_left
    · intro w hSw
      obtain ⟨k2, k3⟩ := HL3.out w hSw
      go_simp
      try with_reducible rfl
    try simp only [Act.put, List.setIfInBounds_toArray, List.set_cons_zero, List.set_cons_succ]
    refine wpAnyH_ready (rs := [8]) (by kernel_rfl) (by simp) ?_
    refine AllReadyH.cons rfl (fun K hK => ?_) AllReadyH.nil
    go_simp
    go_wp2_with (go_at_call 70; go_must (refine (CN.out _).mono ?_; rintro e w8 ⟨rfl, hTk, hB, _⟩))
    refine hK.out _ _ (two_next hHeld hB) (fun hHeld => ?_)
    clear hK K
    have E10 : _ = some (Obj.cells #[.int .i64 su, .pointer none] 199 (0, 0)) := keep_block hB (show w9.drew.heap[eb]? = _ from E9.out)
    have e1 : w8.cell? ⟨eb, 1, none⟩ = some (.pointer none) := cells_of_row E10 1 _ rfl
    have g1 := frozen_of_row _ _ 1 _ _ E10
    refine wpAnyH_take (i := 9) (oi := ⟨some 32, _, _, _, _, _⟩) (v := ?_) rfl (by kernel_rfl) (by kernel_rfl) (by kernel_rfl) (fun _ _ _ h => h) (Or.inl ⟨by rfl, ?_⟩) hHeld ?_
    rotate_left
    · intro w hSw
      go_simp
      try with_reducible rfl
    try simp only [Act.put, List.setIfInBounds_toArray, List.set_cons_zero, List.set_cons_succ]
    refine wpAnyH_take (i := 10) (oi := ⟨some 42, _, _, _, _, _⟩) (v := ?_) rfl (by kernel_rfl) (by kernel_rfl) (by kernel_rfl) (fun _ _ _ h => h) (Or.inl ⟨by rfl, ?_⟩) hHeld ?_
    rotate_left
    · intro w hSw
      go_simp
      try with_reducible rfl
    try simp only [Act.put, List.setIfInBounds_toArray, List.set_cons_zero, List.set_cons_succ]
    refine wpAnyH_take (i := 11) (oi := ⟨some 43, _, _, _, _, _⟩) (v := ?_) rfl (by kernel_rfl) (by kernel_rfl) (by kernel_rfl) (fun _ _ _ h => h) (Or.inl ⟨by rfl, ?_⟩) hHeld ?_
    rotate_left
    · intro w hSw
      go_simp
      try with_reducible rfl
    try simp only [Act.put, List.setIfInBounds_toArray, List.set_cons_zero, List.set_cons_succ]
    refine wpAnyH_take (i := 12) (oi := ⟨some 44, _, _, _, _, _⟩) (v := ?_) rfl (by kernel_rfl) (by kernel_rfl) (by kernel_rfl) (fun _ _ _ h => h) (Or.inl ⟨by rfl, ?_⟩) hHeld ?_
    rotate_left
    · intro w hSw
      go_simp
      try with_reducible rfl
    try simp only [Act.put, List.setIfInBounds_toArray, List.set_cons_zero, List.set_cons_succ]
    refine wpAnyH_ready (rs := [13]) (by kernel_rfl) (by simp) ?_
    refine AllReadyH.cons rfl (fun K hK => ?_) AllReadyH.nil
    go_simp
    refine hK.out _ _ (hHeld.setCell (x := ⟨eb, 1, none⟩) (.inl rfl) _) (fun hHeld => ?_)
    clear hK K
    refine wpAnyH_done (by kernel_rfl) ?_ _
    obtain ⟨tb, htb⟩ : ∃ tb, tb = w9.heap.size := ⟨_, rfl⟩
    have hTk' : TkAt w8 w9.heap.size rate (burst * 1048576) (burst * 1048576) 0 := hTk
    have hB' : Below w9.heap.size w9 w8 := ((Below.refl w9.heap.size w9).drew).trans (show Below w9.heap.size w9.drew w8 from hB)
    rw [← htb] at hTk' ⊢
    have E11 : (w8.setCell ⟨eb, 1, none⟩ (.pointer (some ⟨tb, 0, none⟩))).heap[eb]? = some (.cells #[.int .i64 su, .pointer (some ⟨tb, 0, none⟩)] 199 (0, 0)) := heap_setCell_same _ _ 1 _ _ _ E10
    have B11 : Below w2.heap.size w2 (w8.setCell ⟨eb, 1, none⟩ (.pointer (some ⟨tb, 0, none⟩))) := (B9.out.trans (hB'.mono B9.out.size)).setCell (p := ⟨eb, 1, none⟩) hs7 _
    have TK11 : TkAt (w8.setCell ⟨eb, 1, none⟩ (.pointer (some ⟨tb, 0, none⟩))) tb rate (burst * 1048576) (burst * 1048576) 0 := by
      unfold TkAt
      rw [heap_setCell_other _ _ _ _ (show tb ≠ eb by omega)]
      exact hTk'
    have hnt : eb ≠ tb := by omega
    have htle : w2.heap.size ≤ tb := by omega
    clear hTk hTk' hB hB' hHeld e1 g1 E10 htb
    generalize w8.setCell ⟨eb, 1, none⟩ (.pointer (some ⟨tb, 0, none⟩)) = w11 at *
    have CT := Lib.hid (token_take tb rate (burst * 1048576) (burst * 1048576) 0 now 0 w11 TK11 (by omega) hnow.1 hnow.2 (by omega) (by omega))
    rw [levelT_full (by omega)] at CT
    have htt : takesT (burst * 1048576) 0 = true := by
      unfold takesT
      exact decide_eq_true (by omega)
    rw [htt] at CT
    have e1 : w11.cell? ⟨eb, 1, none⟩ = some (.pointer (some ⟨tb, 0, none⟩)) := cells_of_row E11 1 _ rfl
    have HE11 := Lib.hid E11
    have HB11 := Lib.hid B11
    clear E11 B11 TK11 htt
    go_wp2_with fail
    refine CT.out.mono ?_
    rintro e w12 ⟨rfl, hTk, hT12⟩
    have hnow2 : (if (0 : Int) < now then now else 0) = now := by split <;> omega
    rw [hnow2] at hTk
    have hTk' : TkAt w12 tb rate (burst * 1048576) (burst * 1048576) now := by
      simpa using hTk
    have B12 := Lib.hid (two_below HB11.out hT12 htle HB11.out.size)
    have E12 := Lib.hid ((hT12.block eb (Array.getElem?_eq_some_iff.1 HE11.out).1 hnt hnt).trans HE11.out)
    have TK12 := Lib.hid hTk'
    clear hTk hTk' hT12 CT e1 hnow2
    have X12 := Lib.hid (HX2.out.below B12.out)
    have P12 := Lib.hid (keep_block B12.out P2.out)
    have HL4 : Hid (∀ w', Below w12.heap.size w12 w' → w'.cell? ⟨xb, 0, none⟩ = some (.pointer (some ⟨pb, 0, none⟩)) ∧ (Instr.loadAt 65 (.pointer (some ⟨w.heap.size, 0, none⟩))).run Tryz.prog w' = .ok (.agg p) w' ∧ (Instr.loadAt 199 (.pointer (some ⟨eb, 0, none⟩))).run Tryz.prog w' = .ok (.agg #[.int .i64 su, .pointer (some ⟨tb, 0, none⟩)]) w') := Lib.hid fun w' q =>
      ⟨(X12.out.below q).cells.1, box_load (t := 65) (keep_block q P12.out) _ Tryz.underlying65 rfl HPS.out, box_load (t := 199) (keep_block q E12.out) _ Tryz.underlying199 rfl ent_size⟩
    have CPT : Hid (Calls Tryz.prog 72 #[.pointer (some ⟨pb, 0, none⟩), .agg p, .agg #[.int .i64 su, .pointer (some ⟨tb, 0, none⟩)]] w12.drew fun e w' => e = .returned (.bool false) ∧ Below w12.drew.heap.size w12.drew w') := Lib.hid (HCP.out su (some tb) w12.drew X12.out.tb.drew)
    go_wp2_with fail
    refine wp_region_held_drew (S := Below w12.heap.size w12) (by kernel_rfl) (Below.refl _ _).drew (fun hHeld => ?_)
    refine wpAnyH_take (i := 0) (oi := ⟨some 49, _, _, _, _, _⟩) (v := ?_) rfl (by kernel_rfl) (by kernel_rfl) (by kernel_rfl) (fun _ _ _ h => h) (Or.inl ⟨by rfl, ?_⟩) hHeld ?_
    rotate_left
    · intro w hSw
      go_simp
      try with_reducible rfl
    try simp only [Act.put, List.setIfInBounds_toArray, List.set_cons_zero, List.set_cons_succ]
    refine wpAnyH_take (i := 1) (oi := ⟨some 50, _, _, _, _, _⟩) (v := ?_) rfl (by kernel_rfl) (by kernel_rfl) (by kernel_rfl) (fun _ _ _ h => h) (Or.inl ⟨by rfl, ?_⟩) hHeld ?_
    rotate_left
    · intro w hSw
      go_simp
      try with_reducible rfl
    try simp only [Act.put, List.setIfInBounds_toArray, List.set_cons_zero, List.set_cons_succ]
    refine wpAnyH_take (i := 2) (oi := ⟨some 51, _, _, _, _, _⟩) (v := ?_) rfl (by kernel_rfl) (by kernel_rfl) (by kernel_rfl) (fun _ _ _ h => h) (Or.inl ⟨by rfl, ?_⟩) hHeld ?_
    rotate_left
    · intro w hSw
      go_simp
      try with_reducible rfl
    try simp only [Act.put, List.setIfInBounds_toArray, List.set_cons_zero, List.set_cons_succ]
    refine wpAnyH_take (i := 3) (oi := ⟨some 52, _, _, _, _, _⟩) (v := ?_) rfl (by kernel_rfl) (by kernel_rfl) (by kernel_rfl) (fun _ _ _ h => h) (Or.inl ⟨by rfl, ?_⟩) hHeld ?_
    rotate_left
    · intro w hSw
      obtain ⟨k0, _, _⟩ := HL4.out w hSw
      go_simp
      try with_reducible rfl
    try simp only [Act.put, List.setIfInBounds_toArray, List.set_cons_zero, List.set_cons_succ]
    refine wpAnyH_take (i := 4) (oi := ⟨some 53, _, _, _, _, _⟩) (v := .agg p) rfl (by kernel_rfl) (by kernel_rfl) (by kernel_rfl) (fun _ _ _ h => h) (Or.inl ⟨by rfl, fun w hSw => exec_load rfl (HL4.out w hSw).2.1⟩) hHeld ?_
    try simp only [Act.put, List.setIfInBounds_toArray, List.set_cons_zero, List.set_cons_succ]
    refine wpAnyH_take (i := 5) (oi := ⟨some 54, _, _, _, _, _⟩) (v := .agg #[.int .i64 su, .pointer (some ⟨tb, 0, none⟩)]) rfl (by kernel_rfl) (by kernel_rfl) (by kernel_rfl) (fun _ _ _ h => h) (Or.inl ⟨by rfl, fun w hSw => exec_load rfl (HL4.out w hSw).2.2⟩) hHeld ?_
    try simp only [Act.put, List.setIfInBounds_toArray, List.set_cons_zero, List.set_cons_succ]
    refine wpAnyH_ready (rs := [6]) (by kernel_rfl) (by simp) ?_
    refine AllReadyH.cons rfl (fun K hK => ?_) AllReadyH.nil
    go_simp
    go_wp2_with (go_at_call 72; go_must (refine (CPT.out).mono ?_; rintro e w6 ⟨rfl, h2⟩))
    refine hK.out _ _ (hHeld.trans (h2.mono hHeld.size)) (fun hHeld => ?_)
    clear hK K
    refine wpAnyH_take (i := 7) (oi := ⟨some 56, _, _, _, _, _⟩) (v := ?_) rfl (by kernel_rfl) (by kernel_rfl) (by kernel_rfl) (fun _ _ _ h => h) (Or.inl ⟨by rfl, ?_⟩) hHeld ?_
    rotate_left
    · intro w hSw
      go_simp
      try with_reducible rfl
    try simp only [Act.put, List.setIfInBounds_toArray, List.set_cons_zero, List.set_cons_succ]
    refine wpAnyH_done (by kernel_rfl) ?_ _
    have H2 := Lib.hid hHeld
    clear h2 hHeld
    go_wp2
    go_ret
    exact ⟨rfl, X12.out.below H2.out, (T2.out.trans (two_ofB B12.out)).trans (two_ofB H2.out)⟩
end Go.Proofs.YtpanmfdbdgecaaaGreat.C

namespace Go.Proofs.YtpanmfdbdgecaaaGreat.C
open Go.RowKit
set_option linter.unusedVariables false
section
variable {w : World} {A : PAd} {F : PCf} {S S1 S2 S3 S4 : PSt}
set_option maxRecDepth 100000 in
set_option maxHeartbeats 8000000 in
theorem arrive_in (n now r : Int) (x p : Array Value) (dr : Array Value) (hx : PkP x n p) (hp : p.size = 8) (hn : 1 ≤ n ∧ n ≤ 9216) (h : Pol w A F S) (hr : 0 ≤ r ∧ r ≤ 100) (har : 0 ≤ S.arr ∧ S.arr ≤ 4611686018427387904)
    (hwa : ∀ w', Pol w' A F { S with arr := S.arr + 1 } → Calls Tryz.prog 37 #[.pointer (some ⟨A.wb, 0, none⟩), .int .i64 now, .agg p, .int .i64 n] w' fun e w'' => e = .returned (.bool true) ∧ Pol w'' A F S1 ∧ Tur A.tg [8] w' w'')
    (hin : ∀ w', Pol w' A F S1 → Calls Tryz.prog 38 #[.pointer (some ⟨A.xb, 0, none⟩), .agg p, .int .i64 now] w' fun e w'' => e = .returned (.bool true) ∧ Pol w'' A F S2 ∧ Tur A.tg [9] w' w'')
    (hi2 : ∀ w', Pol w' A F S2 → Calls Tryz.prog 38 #[.pointer (some ⟨A.xb, 0, none⟩), .agg p, .int .i64 now] w' fun e w'' => e = .returned (.bool true) ∧ Pol w'' A F S3 ∧ Tur A.tg [9] w' w'')
    (hbo : ∀ w', Pol w' A F S3 → Calls Tryz.prog 41 #[.pointer (some ⟨A.pb, 0, none⟩), .agg (seqX x S.arr), .int .i64 now] w' fun e w'' => e = .returned (.int .i64 r) ∧ Pol w'' A F S4 ∧ Tur A.tg [3, 4, 5, 6, 7, 9] w' w'') :
    Calls Tryz.prog 20 #[.pointer (some ⟨A.pb, 0, none⟩), .agg x, .int .i64 now, .agg dr] w fun e w' => e = .returned (.agg #[.int .i64 S.arr, .int .i64 r, .int .i64 (if r = 0 then 2 * F.c 0 else -1), .int .i64 (-1), .bool false, .bool false]) ∧ Pol w' A F S4 ∧ Tur A.tg [1, 3, 4, 5, 6, 7, 8, 9] w w' := by
  obtain ⟨har0, har1⟩ := har
  have hwr : IntKind.i64.wrap (S.arr + 1) = S.arr + 1 := IntWalk.i64_in _ (by omega)
  obtain ⟨ar, hara⟩ : ∃ a, S.arr = a := ⟨_, rfl⟩
  rw [hara] at har0 har1 hwr hwa hbo ⊢
  have HWA := Lib.hid hwa
  have HIN := Lib.hid hin
  have HI2 := Lib.hid hi2
  have HBO := Lib.hid hbo
  clear hwa hin hi2 hbo
  have CPE : Hid (∀ w' S', Pol w' A F S' → Calls Tryz.prog 40 #[.pointer (some ⟨A.pb, 0, none⟩)] w' fun e w'' => e = .returned (.int .i64 (2 * F.c 0)) ∧ w'' = w') := Lib.hid fun w' S' q => police_penalty q
  generalize 2 * F.c 0 = pc at *
  have HX0 := Lib.hid hx
  have HP := Lib.hid h
  have HL := Lib.hid hx.l.len
  obtain ⟨hn0, hn1⟩ := hn
  obtain ⟨VZ0, hVZ⟩ : ∃ z, VZ = z := ⟨_, rfl⟩
  have hvz := vz_zero
  rw [hVZ] at hvz
  have HVZ := Lib.hid hvz
  have HVE := Lib.hid hVZ
  clear h hx hvz hVZ
  refine calls_hide fun Q HQ => ?_
  go_enter Tryz.func20, Tryz.ntmps20
  go_upto_region 1 with (first | ((with_reducible refine arm_box 5 1 68 x ?_ ?_); rfl; intro w1 HB HX HS) | ((with_reducible refine arm_box 7 3 41 dr ?_ ?_); rfl; intro w2 HB2 HX2 HS2) | ((with_reducible refine arm_alloc 8 35 VZ0 6 HVZ.out ?_); intro w3 HB3 HX3 HS3))
  have k1 := cells_of_row (keep_block HB3.out (keep_block HB2.out HX.out)) 45 _ HL.out
  go_upto_region 3 with (fail)
  have B3 := Lib.hid ((HB.out.trans (HB2.out.mono HB.out.size)).trans (HB3.out.mono (Nat.le_trans HB.out.size HB2.out.size)))
  have X3 := Lib.hid (keep_block HB3.out (keep_block HB2.out HX.out))
  have R3 := Lib.hid HX3.out
  have hs1 := HS.out
  have hs2 := HS2.out
  have hs3 := HS3.out
  have hlim := HP.out.lim
  have HP3 := Lib.hid (HP.out.below B3.out)
  have k28 := HP3.out.c28
  obtain ⟨x0, hx0⟩ : ∃ v, x[0]? = some v := ⟨_, Array.getElem?_eq_getElem (by have := HX0.out.l.pk.size; omega)⟩
  have cx3 := cells_of_row X3.out 0 _ hx0
  have fx3 : w3.frozen? ⟨w.heap.size, 0, none⟩ = false := frozen_of_row _ _ _ _ _ X3.out
  rw [hara] at k28
  generalize w2.heap.size = rb at *
  clear HB HX HB2 HX2 HB3 HX3 k1 HS HS2 HS3
  go_upto_region 4 with (fail)
  have HPX := Lib.hid (HX0.out.seq ar)
  have hXC := HX0.out.c0 ar
  have X4 : Hid ((w3.setCell ⟨w.heap.size, 0, none⟩ (.int .i64 ar)).heap[w.heap.size]? = some (.cells (seqX x ar) 68 (0, 0))) := Lib.hid (by rw [heap_setCell_same _ _ _ _ _ _ X3.out]; rfl)
  have R4 : Hid ((w3.setCell ⟨w.heap.size, 0, none⟩ (.int .i64 ar)).heap[rb]? = some (.cells VZ0 35 (0, 0))) := Lib.hid (by rw [heap_setCell_other _ _ _ _ (by simp; omega)]; exact R3.out)
  have T4 : Tur A.tg [0] w3 (w3.setCell ⟨w.heap.size, 0, none⟩ (.int .i64 ar)) := Tur.of_two (Two.setCell (g := w.heap.size) (h := w.heap.size) (x := ⟨w.heap.size, 0, none⟩) (Two.refl _ _ w3) (.inl rfl) (.int .i64 ar)) (by simp [HP.out.ok.hi _ hlim]) (by simp [HP.out.ok.hi _ hlim])
  have HP4 : Hid (Pol (w3.setCell ⟨w.heap.size, 0, none⟩ (.int .i64 ar)) A F S) := Lib.hid (HP3.out.tur T4 (by intro k h1 h2; simp; omega))
  have B4 : Hid (Below w.heap.size w (w3.setCell ⟨w.heap.size, 0, none⟩ (.int .i64 ar))) := Lib.hid (B3.out.setCell (Nat.le_refl _) _)
  have hs4 : (w3.setCell ⟨w.heap.size, 0, none⟩ (.int .i64 ar)).heap.size = rb + 1 := by simpa using hs3
  clear k28 cx3 fx3 hx0 T4 B3 HP3 R3 X3 hs3
  generalize w3.setCell ⟨w.heap.size, 0, none⟩ (.int .i64 ar) = w4 at *
  have k28 := HP4.out.c28
  have f28 := HP4.out.fr 28
  rw [hara] at k28
  go_upto_region 5 with (fail)
  obtain ⟨hP5, hT5⟩ := HP4.out.setArr (ar + 1)
  have X5 : Hid ((w4.setCell ⟨A.pb, 28, none⟩ (.int .i64 (ar + 1))).heap[w.heap.size]? = some (.cells (seqX x ar) 68 (0, 0))) := Lib.hid (hT5.keep X4.out (by rw [HP.out.ok.hi _ hlim]; decide))
  have R5 : Hid ((w4.setCell ⟨A.pb, 28, none⟩ (.int .i64 (ar + 1))).heap[rb]? = some (.cells VZ0 35 (0, 0))) := Lib.hid (hT5.keep R4.out (by rw [HP.out.ok.hi _ (by omega)]; decide))
  have HP5 := Lib.hid hP5
  have T5 : Hid (Tur A.tg [1, 3, 4, 5, 6, 7, 8, 9] w (w4.setCell ⟨A.pb, 28, none⟩ (.int .i64 (ar + 1)))) := Lib.hid ((Tur.of_below B4.out).trans (hT5.sub (by simp)))
  have hs5 : (w4.setCell ⟨A.pb, 28, none⟩ (.int .i64 (ar + 1))).heap.size = rb + 1 := by simpa using hs4
  clear k28 f28 hP5 hT5 X4 R4 HP4 B4 hs4
  generalize w4.setCell ⟨A.pb, 28, none⟩ (.int .i64 (ar + 1)) = w5 at *
  have k0 := cells_of_row X5.out 0 _ hXC
  have HS5 := Lib.hid (And.intro hs5 (And.intro hs1 hs2))
  clear hs5 hs1 hs2
  go_upto_region 6 with (fail)
  have p6 : Below w5.heap.size w5 (w5.alloc (.cells #[.int .i64 ar, .int .i64 0, .int .i64 (-1), .int .i64 (-1), .bool false, .bool false] 35)) := (Below.refl _ _).alloc (Nat.le_refl _) _
  have V6 := Lib.hid (Go.heap_alloc_new w5 (.cells #[.int .i64 ar, .int .i64 0, .int .i64 (-1), .int .i64 (-1), .bool false, .bool false] 35))
  have HP6 := Lib.hid (HP5.out.below p6)
  have X6 := Lib.hid (keep_block p6 X5.out)
  have R6 := Lib.hid (keep_block p6 R5.out)
  have T6 := Lib.hid (T5.out.below p6)
  clear k0 p6 X5 R5 HP5 T5
  generalize w5.alloc _ = w6 at *
  generalize w5.heap.size = vb at *
  have hbx : w.heap.size < rb := by have := HS5.out; omega
  have hvb : rb < vb := by have := HS5.out; omega
  clear HS5
  have hz1 : A.tg w.heap.size = 0 := HP.out.ok.hi _ hlim
  have hz2 : A.tg rb = 0 := HP.out.ok.hi _ (by omega)
  have hz3 : A.tg vb = 0 := HP.out.ok.hi _ (by omega)
  have HL1 : Hid (∀ w', Tur A.tg [8] w6 w' → w'.cell? ⟨A.pb, 26, none⟩ = some (.pointer (some ⟨A.wb, 0, none⟩)) ∧ w'.cell? ⟨w.heap.size, 45, none⟩ = some (.int .i64 n) ∧ (Instr.loadAt 65 (.pointer (some ⟨w.heap.size, 37, none⟩))).run Tryz.prog w' = .ok (.agg p) w') := Lib.hid fun w' q =>
    have hb := q.keep X6.out (by rw [hz1]; decide)
    ⟨cells_of_row ((HP6.out.rest q).ptr (by decide)) 26 _ (polC_hi HP6.out 6), cells_of_row hb 45 _ HPX.out.l.len, HPX.out.load hp hb⟩
  go_wp2_with fail
  refine wp_region_held_drew (S := Tur A.tg [8] w6) (by kernel_rfl) (Tur.refl _ _ _).drew (fun hHeld => ?_)
  refine wpAnyH_take (i := 0) (oi := ⟨some 39, _, _, _, _, _⟩) (v := ?_) rfl (by kernel_rfl) (by kernel_rfl) (by kernel_rfl) (fun _ _ _ h => h) (Or.inl ⟨by rfl, ?_⟩) hHeld ?_
  rotate_left
  · intro w hSw
    go_simp
    try with_reducible rfl
  try simp only [Act.put, List.setIfInBounds_toArray, List.set_cons_zero, List.set_cons_succ]
  refine wpAnyH_take (i := 1) (oi := ⟨some 40, _, _, _, _, _⟩) (v := ?_) rfl (by kernel_rfl) (by kernel_rfl) (by kernel_rfl) (fun _ _ _ h => h) (Or.inl ⟨by rfl, ?_⟩) hHeld ?_
  rotate_left
  · intro w hSw
    go_simp
    try with_reducible rfl
  try simp only [Act.put, List.setIfInBounds_toArray, List.set_cons_zero, List.set_cons_succ]
  refine wpAnyH_take (i := 2) (oi := ⟨some 41, _, _, _, _, _⟩) (v := ?_) rfl (by kernel_rfl) (by kernel_rfl) (by kernel_rfl) (fun _ _ _ h => h) (Or.inl ⟨by rfl, ?_⟩) hHeld ?_
  rotate_left
  · intro w hSw
    go_simp
    try with_reducible rfl
  try simp only [Act.put, List.setIfInBounds_toArray, List.set_cons_zero, List.set_cons_succ]
  refine wpAnyH_take (i := 3) (oi := ⟨some 42, _, _, _, _, _⟩) (v := ?_) rfl (by kernel_rfl) (by kernel_rfl) (by kernel_rfl) (fun _ _ _ h => h) (Or.inl ⟨by rfl, ?_⟩) hHeld ?_
  rotate_left
  · intro w hSw
    obtain ⟨k0, k1, _⟩ := HL1.out w hSw
    go_simp
    try with_reducible rfl
  try simp only [Act.put, List.setIfInBounds_toArray, List.set_cons_zero, List.set_cons_succ]
  refine wpAnyH_take (i := 4) (oi := ⟨some 43, _, _, _, _, _⟩) (v := ?_) rfl (by kernel_rfl) (by kernel_rfl) (by kernel_rfl) (fun _ _ _ h => h) (Or.inl ⟨by rfl, ?_⟩) hHeld ?_
  rotate_left
  · intro w hSw
    go_simp
    try with_reducible rfl
  try simp only [Act.put, List.setIfInBounds_toArray, List.set_cons_zero, List.set_cons_succ]
  refine wpAnyH_take (i := 5) (oi := ⟨some 44, _, _, _, _, _⟩) (v := ?_) rfl (by kernel_rfl) (by kernel_rfl) (by kernel_rfl) (fun _ _ _ h => h) (Or.inl ⟨by rfl, ?_⟩) hHeld ?_
  rotate_left
  · intro w hSw
    go_simp
    try with_reducible rfl
  try simp only [Act.put, List.setIfInBounds_toArray, List.set_cons_zero, List.set_cons_succ]
  refine wpAnyH_take (i := 6) (oi := ⟨some 45, _, _, _, _, _⟩) (v := .agg p) rfl (by kernel_rfl) (by kernel_rfl) (by kernel_rfl) (fun _ _ _ h => h) (Or.inl ⟨by rfl, fun w hSw => exec_load rfl (HL1.out w hSw).2.2⟩) hHeld ?_
  try simp only [Act.put, List.setIfInBounds_toArray, List.set_cons_zero, List.set_cons_succ]
  refine wpAnyH_take (i := 7) (oi := ⟨some 46, _, _, _, _, _⟩) (v := ?_) rfl (by kernel_rfl) (by kernel_rfl) (by kernel_rfl) (fun _ _ _ h => h) (Or.inl ⟨by rfl, ?_⟩) hHeld ?_
  rotate_left
  · intro w hSw
    go_simp
    try with_reducible rfl
  try simp only [Act.put, List.setIfInBounds_toArray, List.set_cons_zero, List.set_cons_succ]
  refine wpAnyH_take (i := 8) (oi := ⟨some 47, _, _, _, _, _⟩) (v := ?_) rfl (by kernel_rfl) (by kernel_rfl) (by kernel_rfl) (fun _ _ _ h => h) (Or.inl ⟨by rfl, ?_⟩) hHeld ?_
  rotate_left
  · intro w hSw
    obtain ⟨k0, k1, _⟩ := HL1.out w hSw
    go_simp
    try with_reducible rfl
  try simp only [Act.put, List.setIfInBounds_toArray, List.set_cons_zero, List.set_cons_succ]
  refine wpAnyH_ready (rs := [9]) (by kernel_rfl) (by simp) ?_
  refine AllReadyH.cons rfl (fun K hK => ?_) AllReadyH.nil
  go_simp
  go_wp2_with (go_at_call 37; go_must (refine (HWA.out _ HP6.out.drew).mono ?_; rintro e w9 ⟨rfl, hP9, hT9⟩))
  refine hK.out _ _ (hHeld.trans hT9) (fun hHeld => ?_)
  clear hK K
  refine wpAnyH_take (i := 10) (oi := ⟨some 10, _, _, _, _, _⟩) (v := ?_) rfl (by kernel_rfl) (by kernel_rfl) (by kernel_rfl) (fun _ _ _ h => h) (Or.inl ⟨by rfl, ?_⟩) hHeld ?_
  rotate_left
  · intro w hSw
    go_simp
    try with_reducible rfl
  try simp only [Act.put, List.setIfInBounds_toArray, List.set_cons_zero, List.set_cons_succ]
  refine wpAnyH_done (by kernel_rfl) ?_ _
  have HP9 := Lib.hid hP9
  have X9 := Lib.hid (hHeld.keep X6.out (by rw [hz1]; decide))
  have R9 := Lib.hid (hHeld.keep R6.out (by rw [hz2]; decide))
  have V9 := Lib.hid (hHeld.keep V6.out (by rw [hz3]; decide))
  have T9 := Lib.hid (T6.out.trans (hHeld.sub (js := [1, 3, 4, 5, 6, 7, 8, 9]) (by simp)))
  have hsz9 := Nat.lt_of_lt_of_le (Array.getElem?_eq_some_iff.1 V6.out).1 hHeld.size
  clear hHeld hP9 hT9 HL1 HP6 X6 R6 V6 T6 HWA
  generalize w9 = wa at *
  have HL9 : Hid (∀ w', Tur (C.exc A.tg vb 9) [9] wa w' → w'.cell? ⟨A.pb, 27, none⟩ = some (.pointer (some ⟨A.xb, 0, none⟩)) ∧ (Instr.loadAt 65 (.pointer (some ⟨w.heap.size, 37, none⟩))).run Tryz.prog w' = .ok (.agg p) w') := Lib.hid fun w' q =>
    have hb := q.keep X9.out (by rw [exc_ne (by omega), hz1]; decide)
    have ho := HP9.out.ok.pb
    ⟨cells_of_row (q.keep HP9.out.ptr (by rw [exc_ne (by rintro rfl; omega), ho]; decide)) 27 _ (polC_hi HP9.out 7), HPX.out.load hp hb⟩
  go_wp2_with fail
  refine wp_region_held_drew (S := Tur A.tg [9] wa) (by kernel_rfl) (Tur.refl _ _ _).drew (fun hHeld => ?_)
  refine wpAnyH_take (i := 0) (oi := ⟨some 49, _, _, _, _, _⟩) (v := ?_) rfl (by kernel_rfl) (by kernel_rfl) (by kernel_rfl) (fun _ _ _ h => h) (Or.inl ⟨by rfl, ?_⟩) hHeld ?_
  rotate_left
  · intro w hSw
    go_simp
    try with_reducible rfl
  try simp only [Act.put, List.setIfInBounds_toArray, List.set_cons_zero, List.set_cons_succ]
  refine wpAnyH_take (i := 1) (oi := ⟨some 50, _, _, _, _, _⟩) (v := ?_) rfl (by kernel_rfl) (by kernel_rfl) (by kernel_rfl) (fun _ _ _ h => h) (Or.inl ⟨by rfl, ?_⟩) hHeld ?_
  rotate_left
  · intro w hSw
    go_simp
    try with_reducible rfl
  try simp only [Act.put, List.setIfInBounds_toArray, List.set_cons_zero, List.set_cons_succ]
  refine wpAnyH_take (i := 2) (oi := ⟨some 51, _, _, _, _, _⟩) (v := ?_) rfl (by kernel_rfl) (by kernel_rfl) (by kernel_rfl) (fun _ _ _ h => h) (Or.inl ⟨by rfl, ?_⟩) hHeld ?_
  rotate_left
  · intro w hSw
    go_simp
    try with_reducible rfl
  try simp only [Act.put, List.setIfInBounds_toArray, List.set_cons_zero, List.set_cons_succ]
  refine wpAnyH_take (i := 3) (oi := ⟨some 52, _, _, _, _, _⟩) (v := ?_) rfl (by kernel_rfl) (by kernel_rfl) (by kernel_rfl) (fun _ _ _ h => h) (Or.inl ⟨by rfl, ?_⟩) hHeld ?_
  rotate_left
  · intro w hSw
    go_simp
    try with_reducible rfl
  try simp only [Act.put, List.setIfInBounds_toArray, List.set_cons_zero, List.set_cons_succ]
  refine wpAnyH_take (i := 4) (oi := ⟨some 53, _, _, _, _, _⟩) (v := ?_) rfl (by kernel_rfl) (by kernel_rfl) (by kernel_rfl) (fun _ _ _ h => h) (Or.inl ⟨by rfl, ?_⟩) hHeld ?_
  rotate_left
  · intro w hSw
    go_simp
    try with_reducible rfl
  try simp only [Act.put, List.setIfInBounds_toArray, List.set_cons_zero, List.set_cons_succ]
  refine wpAnyH_take (i := 5) (oi := ⟨some 54, _, _, _, _, _⟩) (v := ?_) rfl (by kernel_rfl) (by kernel_rfl) (by kernel_rfl) (fun _ _ _ h => h) (Or.inl ⟨by rfl, ?_⟩) hHeld ?_
  rotate_left
  · intro w hSw
    obtain ⟨k0, _⟩ := HL9.out w (hSw.exc (by decide))
    go_simp
    try with_reducible rfl
  try simp only [Act.put, List.setIfInBounds_toArray, List.set_cons_zero, List.set_cons_succ]
  refine wpAnyH_take (i := 6) (oi := ⟨some 55, _, _, _, _, _⟩) (v := ?_) rfl (by kernel_rfl) (by kernel_rfl) (by kernel_rfl) (fun _ _ _ h => h) (Or.inl ⟨by rfl, ?_⟩) hHeld ?_
  rotate_left
  · intro w hSw
    go_simp
    try with_reducible rfl
  try simp only [Act.put, List.setIfInBounds_toArray, List.set_cons_zero, List.set_cons_succ]
  refine wpAnyH_take (i := 7) (oi := ⟨some 56, _, _, _, _, _⟩) (v := .agg p) rfl (by kernel_rfl) (by kernel_rfl) (by kernel_rfl) (fun _ _ _ h => h) (Or.inl ⟨by rfl, fun w hSw => exec_load rfl (HL9.out w (hSw.exc (by decide))).2⟩) hHeld ?_
  try simp only [Act.put, List.setIfInBounds_toArray, List.set_cons_zero, List.set_cons_succ]
  refine wpAnyH_take (i := 8) (oi := ⟨some 57, _, _, _, _, _⟩) (v := ?_) rfl (by kernel_rfl) (by kernel_rfl) (by kernel_rfl) (fun _ _ _ h => h) (Or.inl ⟨by rfl, ?_⟩) hHeld ?_
  rotate_left
  · intro w hSw
    go_simp
    try with_reducible rfl
  try simp only [Act.put, List.setIfInBounds_toArray, List.set_cons_zero, List.set_cons_succ]
  refine wpAnyH_ready (rs := [9]) (by kernel_rfl) (by simp) ?_
  refine AllReadyH.cons rfl (fun K hK => ?_) AllReadyH.nil
  go_simp
  go_wp2_with (go_at_call 38; go_must (refine (HIN.out _ HP9.out.drew).mono ?_; rintro e w9 ⟨rfl, hP10, hT10⟩))
  refine hK.out _ _ (hHeld.trans hT10) (fun hHeld => ?_)
  clear hK K
  refine wpAnyH_take (i := 10) (oi := ⟨some 59, _, _, _, _, _⟩) (v := ?_) rfl (by kernel_rfl) (by kernel_rfl) (by kernel_rfl) (fun _ _ _ h => h) (Or.inl ⟨by rfl, ?_⟩) hHeld ?_
  rotate_left
  · intro w hSw
    go_simp
    try with_reducible rfl
  try simp only [Act.put, List.setIfInBounds_toArray, List.set_cons_zero, List.set_cons_succ]
  refine wpAnyH_take (i := 11) (oi := ⟨some 60, _, _, _, _, _⟩) (v := ?_) rfl (by kernel_rfl) (by kernel_rfl) (by kernel_rfl) (fun _ _ _ h => h) (Or.inl ⟨by rfl, ?_⟩) hHeld ?_
  rotate_left
  · intro w hSw
    go_simp
    try with_reducible rfl
  try simp only [Act.put, List.setIfInBounds_toArray, List.set_cons_zero, List.set_cons_succ]
  refine wpAnyH_done (by kernel_rfl) ?_ _
  have HP10 := Lib.hid hP10
  have XA := Lib.hid (hHeld.keep X9.out (by rw [hz1]; decide))
  have RA := Lib.hid (hHeld.keep R9.out (by rw [hz2]; decide))
  have VA := Lib.hid (hHeld.keep V9.out (by rw [hz3]; decide))
  have TA := Lib.hid (T9.out.trans (hHeld.sub (js := [1, 3, 4, 5, 6, 7, 8, 9]) (by simp)))
  have hszA := Nat.lt_of_lt_of_le hsz9 hHeld.size
  clear hHeld hP10 hT10 HL9 HP9 X9 R9 V9 T9 HIN hsz9
  generalize w9 = wb at *
  have hy1 : A.tg w.heap.size = 0 := hz1
  have hy2 : A.tg rb = 0 := hz2
  have hy3 : A.tg vb = 0 := hz3
  have HLA : Hid (∀ w', Tur A.tg [9] wb w' → w'.cell? ⟨A.pb, 27, none⟩ = some (.pointer (some ⟨A.xb, 0, none⟩)) ∧ (Instr.loadAt 65 (.pointer (some ⟨w.heap.size, 37, none⟩))).run Tryz.prog w' = .ok (.agg p) w') := Lib.hid fun w' q => by
    have hb := q.keep XA.out (by rw [hy1]; decide)
    have ho := HP10.out.ok.pb
    have h1 := cells_of_row (q.keep HP10.out.ptr (by rw [ho]; decide)) 27 _ (polC_hi HP10.out 7)
    exact ⟨h1, HPX.out.load hp hb⟩
  go_wp2_with fail
  refine wp_region_held_drew (S := Tur A.tg [9] wb) (by kernel_rfl) (Tur.refl _ _ _).drew (fun hHeld => ?_)
  refine wpAnyH_take (i := 0) (oi := ⟨some 75, _, _, _, _, _⟩) (v := ?_) rfl (by kernel_rfl) (by kernel_rfl) (by kernel_rfl) (fun _ _ _ h => h) (Or.inl ⟨by rfl, ?_⟩) hHeld ?_
  rotate_left
  · intro w hSw
    go_simp
    try with_reducible rfl
  try simp only [Act.put, List.setIfInBounds_toArray, List.set_cons_zero, List.set_cons_succ]
  refine wpAnyH_take (i := 1) (oi := ⟨some 76, _, _, _, _, _⟩) (v := ?_) rfl (by kernel_rfl) (by kernel_rfl) (by kernel_rfl) (fun _ _ _ h => h) (Or.inl ⟨by rfl, ?_⟩) hHeld ?_
  rotate_left
  · intro w hSw
    go_simp
    try with_reducible rfl
  try simp only [Act.put, List.setIfInBounds_toArray, List.set_cons_zero, List.set_cons_succ]
  refine wpAnyH_take (i := 2) (oi := ⟨some 77, _, _, _, _, _⟩) (v := ?_) rfl (by kernel_rfl) (by kernel_rfl) (by kernel_rfl) (fun _ _ _ h => h) (Or.inl ⟨by rfl, ?_⟩) hHeld ?_
  rotate_left
  · intro w hSw
    go_simp
    try with_reducible rfl
  try simp only [Act.put, List.setIfInBounds_toArray, List.set_cons_zero, List.set_cons_succ]
  refine wpAnyH_take (i := 3) (oi := ⟨some 78, _, _, _, _, _⟩) (v := ?_) rfl (by kernel_rfl) (by kernel_rfl) (by kernel_rfl) (fun _ _ _ h => h) (Or.inl ⟨by rfl, ?_⟩) hHeld ?_
  rotate_left
  · intro w hSw
    obtain ⟨k0, _⟩ := HLA.out w hSw
    go_simp
    try with_reducible rfl
  try simp only [Act.put, List.setIfInBounds_toArray, List.set_cons_zero, List.set_cons_succ]
  refine wpAnyH_take (i := 4) (oi := ⟨some 79, _, _, _, _, _⟩) (v := ?_) rfl (by kernel_rfl) (by kernel_rfl) (by kernel_rfl) (fun _ _ _ h => h) (Or.inl ⟨by rfl, ?_⟩) hHeld ?_
  rotate_left
  · intro w hSw
    go_simp
    try with_reducible rfl
  try simp only [Act.put, List.setIfInBounds_toArray, List.set_cons_zero, List.set_cons_succ]
  refine wpAnyH_take (i := 5) (oi := ⟨some 80, _, _, _, _, _⟩) (v := .agg p) rfl (by kernel_rfl) (by kernel_rfl) (by kernel_rfl) (fun _ _ _ h => h) (Or.inl ⟨by rfl, fun w hSw => exec_load rfl (HLA.out w hSw).2⟩) hHeld ?_
  try simp only [Act.put, List.setIfInBounds_toArray, List.set_cons_zero, List.set_cons_succ]
  refine wpAnyH_take (i := 6) (oi := ⟨some 81, _, _, _, _, _⟩) (v := ?_) rfl (by kernel_rfl) (by kernel_rfl) (by kernel_rfl) (fun _ _ _ h => h) (Or.inl ⟨by rfl, ?_⟩) hHeld ?_
  rotate_left
  · intro w hSw
    go_simp
    try with_reducible rfl
  try simp only [Act.put, List.setIfInBounds_toArray, List.set_cons_zero, List.set_cons_succ]
  refine wpAnyH_ready (rs := [7]) (by kernel_rfl) (by simp) ?_
  refine AllReadyH.cons rfl (fun K hK => ?_) AllReadyH.nil
  go_simp
  go_wp2_with (go_at_call 38; go_must (refine (HI2.out _ HP10.out.drew).mono ?_; rintro e w7 ⟨rfl, hP7, hT7⟩))
  refine hK.out _ _ (hHeld.trans hT7) (fun hHeld => ?_)
  clear hK K
  refine wpAnyH_done (by kernel_rfl) ?_ _
  have HPE := Lib.hid hP7
  have XE := Lib.hid (hHeld.keep XA.out (by rw [hy1]; decide))
  have RE := Lib.hid (hHeld.keep RA.out (by rw [hy2]; decide))
  have VE := Lib.hid (hHeld.keep VA.out (by rw [hy3]; decide))
  have TE := Lib.hid (TA.out.trans2 (hHeld.sub (js := [1, 3, 4, 5, 6, 7, 8, 9]) (by simp)) (fun _ _ => rfl))
  clear hHeld hP7 hT7 HLA HP10 XA RA VA TA HI2
  generalize w7 = we at *
  have c2 := cells_of_row VE.out 2 _ rfl
  have f2 : we.frozen? ⟨vb, 2, none⟩ = false := frozen_of_row _ _ _ _ _ VE.out
  go_wp2_with fail
  refine (CPE.out _ _ HPE.out).mono ?_
  rintro e w7 ⟨rfl, rfl⟩
  go_upto_region 12 with (fail)
  have VF : Hid ((w7.setCell ⟨vb, 2, none⟩ (.int .i64 pc)).heap[vb]? = some (.cells #[.int .i64 ar, .int .i64 0, .int .i64 pc, .int .i64 (-1), .bool false, .bool false] 35 (0, 0))) := Lib.hid (by rw [heap_setCell_same _ _ _ _ _ _ VE.out]; rfl)
  have tf : Tur A.tg [0] w7 (w7.setCell ⟨vb, 2, none⟩ (.int .i64 pc)) := Tur.of_two (Two.setCell (g := vb) (h := vb) (x := ⟨vb, 2, none⟩) (Two.refl _ _ w7) (.inl rfl) (.int .i64 pc)) (by simp [hy3]) (by simp [hy3])
  have HPF := Lib.hid (HPE.out.tur tf (by intro k h1 h2; simp; omega))
  have XF : Hid ((w7.setCell ⟨vb, 2, none⟩ (.int .i64 pc)).heap[w.heap.size]? = some (.cells (seqX x ar) 68 (0, 0))) := Lib.hid (by rw [heap_setCell_other _ _ _ _ (by simp; omega)]; exact XE.out)
  have RF : Hid ((w7.setCell ⟨vb, 2, none⟩ (.int .i64 pc)).heap[rb]? = some (.cells VZ0 35 (0, 0))) := Lib.hid (by rw [heap_setCell_other _ _ _ _ (by simp; omega)]; exact RE.out)
  have TF : Hid (Tur A.tg [1, 3, 4, 5, 6, 7, 8, 9] w (w7.setCell ⟨vb, 2, none⟩ (.int .i64 pc))) := Lib.hid (TE.out.trans2 (f := A.tg) (g := fun k => if k = vb then 1 else A.tg k) (Tur.of_two (Two.setCell (g := vb) (h := vb) (x := ⟨vb, 2, none⟩) (Two.refl _ _ w7) (.inl rfl) (.int .i64 pc)) (by simp) (by simp)) (fun k hk => if_neg (by omega)))
  clear tf c2 f2 VE HPE XE RE TE CPE
  generalize w7.setCell ⟨vb, 2, none⟩ (.int .i64 pc) = wf at *
  have hld := pkt_load XF.out HPX.out.l.pk
  go_wp2_with ((with_reducible refine arm_loadg 87 5 68 (.pointer (some ⟨w.heap.size, 0, none⟩)) (.agg (seqX x ar)) hld ?_ ?_ ?_); rfl; rfl)
  refine (HBO.out _ HPF.out).mono ?_
  rintro e w8 ⟨rfl, hP8, hT8⟩
  have HPG := Lib.hid hP8
  have RG := Lib.hid (hT8.keep RF.out (by rw [hy2]; decide))
  have VG := Lib.hid (hT8.keep VF.out (by rw [hy3]; decide))
  have TG := Lib.hid (TF.out.trans2 (hT8.sub (js := [1, 3, 4, 5, 6, 7, 8, 9]) (by simp)) (fun _ _ => rfl))
  clear hP8 hT8 hld HPF XF RF VF TF HBO
  generalize w8 = wg at *
  have c1 := cells_of_row VG.out 1 _ rfl
  have f1 : wg.frozen? ⟨vb, 1, none⟩ = false := frozen_of_row _ _ _ _ _ VG.out
  go_upto_region 14 with (fail)
  have VH : Hid ((wg.setCell ⟨vb, 1, none⟩ (.int .i64 r)).heap[vb]? = some (.cells #[.int .i64 ar, .int .i64 r, .int .i64 pc, .int .i64 (-1), .bool false, .bool false] 35 (0, 0))) := Lib.hid (by rw [heap_setCell_same _ _ _ _ _ _ VG.out]; rfl)
  have th : Tur A.tg [0] wg (wg.setCell ⟨vb, 1, none⟩ (.int .i64 r)) := Tur.of_two (Two.setCell (g := vb) (h := vb) (x := ⟨vb, 1, none⟩) (Two.refl _ _ wg) (.inl rfl) (.int .i64 r)) (by simp [hy3]) (by simp [hy3])
  have HPH := Lib.hid (HPG.out.tur th (by intro k h1 h2; simp; omega))
  have RH : Hid ((wg.setCell ⟨vb, 1, none⟩ (.int .i64 r)).heap[rb]? = some (.cells VZ0 35 (0, 0))) := Lib.hid (by rw [heap_setCell_other _ _ _ _ (by simp; omega)]; exact RG.out)
  have TH : Hid (Tur A.tg [1, 3, 4, 5, 6, 7, 8, 9] w (wg.setCell ⟨vb, 1, none⟩ (.int .i64 r))) := Lib.hid (TG.out.trans2 (f := A.tg) (g := fun k => if k = vb then 1 else A.tg k) (Tur.of_two (Two.setCell (g := vb) (h := vb) (x := ⟨vb, 1, none⟩) (Two.refl _ _ wg) (.inl rfl) (.int .i64 r)) (by simp) (by simp)) (fun k hk => if_neg (by omega)))
  clear th c1 f1 VG HPG RG TG
  generalize wg.setCell ⟨vb, 1, none⟩ (.int .i64 r) = wh at *
  have c1 := cells_of_row VH.out 1 _ rfl
  by_cases h0 : r = 0
  · subst h0
    go_upto_region 16 with (fail)
    have VI := VH
    have RI := RH
    have HPI := HPH
    have TI := TH
    clear c1
    obtain ⟨vv, hvv⟩ : ∃ z : Array Value, #[.int .i64 ar, .int .i64 0, .int .i64 pc, .int .i64 (-1), .bool false, .bool false] = z := ⟨_, rfl⟩
    have hvs : vv.size = 6 := by rw [← hvv]; rfl
    have hva : vv.all (·.oneCell') = true := by rw [← hvv]; kernel_rfl
    rw [hvv] at VI
    have HVV := Lib.hid hvv
    clear hvv
    have hvt : (Tryz.prog.info? 35).map (·.size) = some vv.size := by rw [hvs]; kernel_rfl
    have hld := box_load (t := 35) VI.out _ Tryz.underlying35 rfl hvt
    have hz6 : VZ0.size = vv.size := by rw [hvs, ← HVE.out]; rfl
    have hst := box_store (t := 35) (x := vv) RI.out hvt hva hz6
    have hbox := box_whole (cs := vv) RI.out hz6.symm
    have tj : Tur A.tg [0] wh (World.setCells wh rb 0 vv.toList) := Tur.of_two (Two.setCells (g := rb) (h := rb) (.inl rfl) vv.toList 0 (Two.refl _ _ _)) (by simp [hy2]) (by simp [hy2])
    have HPJ := Lib.hid (HPI.out.tur tj (by intro k h1 h2; simp; omega))
    have TJ : Hid (Tur A.tg [1, 3, 4, 5, 6, 7, 8, 9] w (World.setCells wh rb 0 vv.toList)) := Lib.hid (TI.out.trans2 (f := A.tg) (g := fun k => if k = rb then 1 else A.tg k) (Tur.of_two (Two.setCells (g := rb) (h := rb) (.inl rfl) vv.toList 0 (Two.refl _ _ _)) (by simp) (by simp)) (fun k hk => if_neg (by omega)))
    have HBXX := Lib.hid hbox
    clear hbox tj
    go_wp2_with (first | ((with_reducible refine arm_load 101 9 35 _ _ hld ?_ ?_); rfl) | ((with_reducible refine arm_store 8 101 35 _ _ _ hst ?_ ?_ ?_); rfl; rfl))
    refine bodyPost_ret (results_cell_row rfl _ _ _ _ _ _ _ rfl HBXX.out Tryz.underlying35 rfl hvt) rfl ?_
    refine HQ.out _ _ ⟨?_, ?_, TJ.out⟩
    · rw [← HVV.out]
      rfl
    · exact HPJ.out
  · have c2 := cells_of_row VH.out 2 _ rfl
    have f2 : wh.frozen? ⟨vb, 2, none⟩ = false := frozen_of_row _ _ _ _ _ VH.out
    go_upto_region 16 with (fail)
    have VI : Hid ((wh.setCell ⟨vb, 2, none⟩ (.int .i64 (-1))).heap[vb]? = some (.cells #[.int .i64 ar, .int .i64 r, .int .i64 (-1), .int .i64 (-1), .bool false, .bool false] 35 (0, 0))) := Lib.hid (by rw [heap_setCell_same _ _ _ _ _ _ VH.out]; rfl)
    have ti : Tur A.tg [0] wh (wh.setCell ⟨vb, 2, none⟩ (.int .i64 (-1))) := Tur.of_two (Two.setCell (g := vb) (h := vb) (x := ⟨vb, 2, none⟩) (Two.refl _ _ wh) (.inl rfl) (.int .i64 (-1))) (by simp [hy3]) (by simp [hy3])
    have HPI := Lib.hid (HPH.out.tur ti (by intro k h1 h2; simp; omega))
    have RI : Hid ((wh.setCell ⟨vb, 2, none⟩ (.int .i64 (-1))).heap[rb]? = some (.cells VZ0 35 (0, 0))) := Lib.hid (by rw [heap_setCell_other _ _ _ _ (by simp; omega)]; exact RH.out)
    have TI : Hid (Tur A.tg [1, 3, 4, 5, 6, 7, 8, 9] w (wh.setCell ⟨vb, 2, none⟩ (.int .i64 (-1)))) := Lib.hid (TH.out.trans2 (f := A.tg) (g := fun k => if k = vb then 1 else A.tg k) (Tur.of_two (Two.setCell (g := vb) (h := vb) (x := ⟨vb, 2, none⟩) (Two.refl _ _ wh) (.inl rfl) (.int .i64 (-1))) (by simp) (by simp)) (fun k hk => if_neg (by omega)))
    clear ti c1 c2 f2 VH HPH RH TH
    generalize wh.setCell ⟨vb, 2, none⟩ (.int .i64 (-1)) = wi at *
    obtain ⟨vv, hvv⟩ : ∃ z : Array Value, #[.int .i64 ar, .int .i64 r, .int .i64 (-1), .int .i64 (-1), .bool false, .bool false] = z := ⟨_, rfl⟩
    have hvs : vv.size = 6 := by rw [← hvv]; rfl
    have hva : vv.all (·.oneCell') = true := by rw [← hvv]; kernel_rfl
    rw [hvv] at VI
    have HVV := Lib.hid hvv
    clear hvv
    have hvt : (Tryz.prog.info? 35).map (·.size) = some vv.size := by rw [hvs]; kernel_rfl
    have hld := box_load (t := 35) VI.out _ Tryz.underlying35 rfl hvt
    have hz6 : VZ0.size = vv.size := by rw [hvs, ← HVE.out]; rfl
    have hst := box_store (t := 35) (x := vv) RI.out hvt hva hz6
    have hbox := box_whole (cs := vv) RI.out hz6.symm
    have tj : Tur A.tg [0] wi (World.setCells wi rb 0 vv.toList) := Tur.of_two (Two.setCells (g := rb) (h := rb) (.inl rfl) vv.toList 0 (Two.refl _ _ _)) (by simp [hy2]) (by simp [hy2])
    have HPJ := Lib.hid (HPI.out.tur tj (by intro k h1 h2; simp; omega))
    have TJ : Hid (Tur A.tg [1, 3, 4, 5, 6, 7, 8, 9] w (World.setCells wi rb 0 vv.toList)) := Lib.hid (TI.out.trans2 (f := A.tg) (g := fun k => if k = rb then 1 else A.tg k) (Tur.of_two (Two.setCells (g := rb) (h := rb) (.inl rfl) vv.toList 0 (Two.refl _ _ _)) (by simp) (by simp)) (fun k hk => if_neg (by omega)))
    have HBXX := Lib.hid hbox
    clear hbox tj
    go_wp2_with (first | ((with_reducible refine arm_load 101 9 35 _ _ hld ?_ ?_); rfl) | ((with_reducible refine arm_store 8 101 35 _ _ _ hst ?_ ?_ ?_); rfl; rfl))
    refine bodyPost_ret (results_cell_row rfl _ _ _ _ _ _ _ rfl HBXX.out Tryz.underlying35 rfl hvt) rfl ?_
    refine HQ.out _ _ ⟨?_, ?_, TJ.out⟩
    · rw [← HVV.out, if_neg h0]
    · exact HPJ.out
end
end Go.Proofs.YtpanmfdbdgecaaaGreat.C

namespace Go.Proofs.YtpanmfdbdgecaaaGreat.C
open Go.RowKit
set_option linter.unusedVariables false
theorem pfx_all (p0 p1 p2 : Nat) : (pfx p0 p1 p2).all (·.oneCell') = true := by kernel_rfl
theorem pktX_pre (s0 s1 s2 s3 d0 d1 d2 d3 sp dp n : Nat) : PkP (pktX s0 s1 s2 s3 d0 d1 d2 d3 sp dp n) (n : Nat) (pfx s0 s1 s2) := ⟨⟨pktX_pk _ _ _ _ _ _ _ _ _ _ _, by kernel_rfl⟩, by kernel_rfl⟩
section
variable {w : World} {A : PAd} {F : PCf} {S : PSt}
end
end Go.Proofs.YtpanmfdbdgecaaaGreat.C

namespace Go.Proofs.YtpanmfdbdgecaaaGreat.C
open Go.RowKit
set_option linter.unusedVariables false
/-- TopFull's config. -/
structure FullF (F : PCf) (room : Nat) (K : Nat → Nat) : Prop where
  ok : F.Ok
  c0 : F.c 0 = 1
  c1 : F.c 1 = 60
  c2 : F.c 2 = 1
  c3 : F.c 3 = 1
  c4 : F.c 4 = 0
  c5 : F.c 5 = 0
  c6 : F.c 6 = 64
  c7 : F.c 7 = (room : Nat)
  c9 : F.c 9 = 1048576
  c10 : F.c 10 = 0
  c12 : F.c 12 = 1048576
  c13 : F.c 13 = 0
  c14 : F.c 14 = 0
  c15 : F.c 15 = 1
  c16 : F.c 16 = 1
  c17 : F.c 17 = 1099511627776
  c18 : F.c 18 = 0
  c19 : F.c 19 = 1048576
  rm : 1 ≤ room ∧ room ≤ 8
  key : Key16 F.kv K
/-- What waits: so many free ones, so many boxed ones, of 60 bytes each. -/
structure JF (S : PSt) (l0 l2 : List (Array Value)) : Prop where
  L : S.L = [l0, [], l2]
  p0 : ∀ x ∈ l0, PkL x 60
  sh : S.sh = 0
  ql : S.ql = [60 * (l0.length : Int), 0, 60 * (l2.length : Int)]
  tl : S.tl.length = 3
  ln : S.line.length = S.tl.countP (·.awake)
theorem wake_count (tl : List Tcl) (line : List Nat) (c : Nat) (h : line.length = tl.countP (·.awake)) : (wakeT tl line c).2.length = (wakeT tl line c).1.countP (·.awake) := by
  unfold wakeT
  cases hx : tl[c]? with
  | none => exact h
  | some x =>
    simp only
    cases ha : x.awake with
    | true => simpa using h
    | false =>
      have hc := lt_of_some hx
      have e : tl[c] = x := by
        rw [List.getElem?_eq_getElem hc] at hx
        injection hx
      simp only [Bool.false_eq_true, if_false]
      rw [List.countP_set hc, e, ha]
      simp [h]
theorem wake_room {tl : List Tcl} {line : List Nat} {c : Nat} {y : Tcl} (h : line.length = tl.countP (·.awake)) (hy : tl[c]? = some y) : y.awake = false → line.length < tl.length := fun ha => by
  rw [h]
  refine Nat.lt_of_le_of_ne List.countP_le_length fun e => ?_
  have := List.countP_eq_length.1 e y (List.mem_of_getElem? hy)
  rw [ha] at this
  cases this
theorem sum60 : ∀ (l : List (Array Value)), (∀ x ∈ l, PkL x 60) → sumL l = 60 * (l.length : Int)
  | [], _ => rfl
  | x :: l, h => by
    have h1 : sumL (x :: l) = lenP x + sumL l := by simp [sumL]
    rw [h1, (h x (by simp)).lenP, sum60 l (fun y hy => h y (by simp [hy])), List.length_cons]
    omega
section
variable {F : PCf} {room : Nat} {K : Nat → Nat} {S : PSt} {l0 l2 : List (Array Value)}
theorem JF.qok (h : JF S l0 l2) (hF : FullF F room K) (hk : l0.length + l2.length ≤ 40) : QU.QOk (F.c 9) (F.c 10) S.sh S.ql := by
  rw [hF.c9, hF.c10, h.sh, h.ql]
  refine ⟨by decide, by decide, by decide, by decide, by decide, by decide, by simp, fun x hx => ?_⟩
  simp only [List.mem_cons, List.not_mem_nil, or_false] at hx
  rcases hx with rfl | rfl | rfl <;> omega
theorem JF.fits (h : JF S l0 l2) (hF : FullF F room K) (hk : l0.length + l2.length ≤ 40) : QU.fitsB (F.c 9) (F.c 10) S.sh S.ql (0 : Nat) 60 = true ∧ QU.fitsB (F.c 9) (F.c 10) S.sh S.ql (2 : Nat) 60 = true := by
  rw [hF.c9, hF.c10, h.sh, h.ql]
  unfold QU.fitsB QU.moreQ QU.overQ
  constructor <;> simp <;> repeat' split
  all_goals omega
theorem JF.add0 (h : JF S l0 l2) (hF : FullF F room K) (hk : l0.length + l2.length ≤ 40) : QU.addS (F.c 9) (F.c 10) S.sh S.ql (0 : Nat) 60 = 0 ∧ QU.addL (F.c 9) (F.c 10) S.sh S.ql (0 : Nat) 60 = [60 * ((l0.length + 1 : Nat) : Int), 0, 60 * (l2.length : Int)] := by
  have hf := (h.fits hF hk).1
  unfold QU.addS QU.addL
  rw [hf, hF.c9, h.sh, h.ql]
  unfold QU.putS QU.putL QU.moreQ QU.overQ
  constructor
  · simp
    repeat' split
    all_goals omega
  · simp
    omega
theorem JF.add2 (h : JF S l0 l2) (hF : FullF F room K) (hk : l0.length + l2.length ≤ 40) : QU.addS (F.c 9) (F.c 10) S.sh S.ql (2 : Nat) 60 = 0 ∧ QU.addL (F.c 9) (F.c 10) S.sh S.ql (2 : Nat) 60 = [60 * (l0.length : Int), 0, 60 * ((l2.length + 1 : Nat) : Int)] := by
  have hf := (h.fits hF hk).2
  unfold QU.addS QU.addL
  rw [hf, hF.c9, h.sh, h.ql]
  unfold QU.putS QU.putL QU.moreQ QU.overQ
  constructor
  · simp
    repeat' split
    all_goals omega
  · simp
    omega
end
end Go.Proofs.YtpanmfdbdgecaaaGreat.C

namespace Go.Proofs.YtpanmfdbdgecaaaGreat.C
open Go.RowKit
set_option linter.unusedVariables false
/-- An engine at a time, that has what it should, and none of whose blocks is one of mine. -/
def EngP (Z : Nat → Prop) (eb : Nat) (F : PCf) (t : Int) (P : PSt → Prop) (w : World) : Prop := ∃ a S N, a.eb = eb ∧ (∀ k, Z k → k < w.heap.size ∧ a.A.tg k = 0) ∧ Eng w a F S t N 0 ∧ P S
/-- My blocks have not turned. -/
structure Kp (Z : Nat → Prop) (w w' : World) : Prop where
  os : w'.os = w.os
  tape : w'.tape = w.tape
  output : w'.output = w.output
  size : w.heap.size ≤ w'.heap.size
  block : ∀ k, k < w.heap.size → Z k → w'.heap[k]? = w.heap[k]?
section
variable {Z Y : Nat → Prop} {a b c w w' : World} {eb : Nat} {F : PCf} {t : Int} {P : PSt → Prop}
theorem Kp.refl (Z : Nat → Prop) (w : World) : Kp Z w w := ⟨rfl, rfl, rfl, Nat.le_refl _, fun _ _ _ => rfl⟩
theorem Kp.trans (p : Kp Z a b) (q : Kp Z b c) : Kp Z a c := ⟨q.os.trans p.os, q.tape.trans p.tape, q.output.trans p.output, Nat.le_trans p.size q.size, fun k hk h => (q.block k (Nat.lt_of_lt_of_le hk p.size) h).trans (p.block k hk h)⟩
theorem Kp.sub (p : Kp Y a b) (h : ∀ k, Z k → Y k) : Kp Z a b := ⟨p.os, p.tape, p.output, p.size, fun k hk hz => p.block k hk (h k hz)⟩
theorem Kp.of_below (p : Below a.heap.size a b) : Kp Z a b := ⟨p.os, p.tape, p.output, p.size, fun k hk _ => p.block k hk⟩
theorem Kp.of_tur {f : Nat → Nat} {ks : List Nat} (p : Tur f ks a b) (h : ∀ k, Z k → f k = 0) (h0 : 0 ∉ ks) : Kp Z a b := ⟨p.os, p.tape, p.output, p.size, fun k hk hz => p.block k hk (by rw [h k hz]; exact h0)⟩
theorem Kp.keep (p : Kp Z a b) {k : Nat} {o : Obj} (h : a.heap[k]? = some o) (hz : Z k) : b.heap[k]? = some o := (p.block k (Array.getElem?_eq_some_iff.1 h).1 hz).trans h
theorem Kp.to_below {m : Nat} (p : Kp Z a b) (h : ∀ k, k < m → Z k) (hm : m ≤ a.heap.size) : Below m a b := ⟨p.os, p.tape, p.output, p.size, fun k hk => p.block k (by omega) (h k hk)⟩
theorem EngP.below (h : EngP Z eb F t P w) (p : Below w.heap.size w w') : EngP Z eb F t P w' := by
  obtain ⟨a, S, N, e1, e2, e3, e4⟩ := h
  exact ⟨a, S, N, e1, fun k hk => ⟨Nat.lt_of_lt_of_le (e2 k hk).1 p.size, (e2 k hk).2⟩, e3.below p, e4⟩
/-- A new block is mine. -/
theorem EngP.mine (h : EngP Z eb F t P w) (p : Below w.heap.size w w') {x : Nat} (h1 : w.heap.size ≤ x) (h2 : x < w'.heap.size) : EngP (fun k => Z k ∨ k = x) eb F t P w' := by
  obtain ⟨a, S, N, e1, e2, e3, e4⟩ := h
  refine ⟨a, S, N, e1, fun k hk => ?_, e3.below p, e4⟩
  rcases hk with hk | rfl
  · exact ⟨Nat.lt_of_lt_of_le (e2 k hk).1 p.size, (e2 k hk).2⟩
  · exact ⟨h2, e3.pol.ok.hi _ (Nat.le_trans e3.pol.lim h1)⟩
theorem EngP.sub (h : EngP Y eb F t P w) (hs : ∀ k, Z k → Y k) : EngP Z eb F t P w := by
  obtain ⟨a, S, N, e1, e2, e3, e4⟩ := h
  exact ⟨a, S, N, e1, fun k hk => e2 k (hs k hk), e3, e4⟩
/-- A block of mine is written. -/
theorem EngP.set (h : EngP Z eb F t P w) {x : Nat} (hx : Z x) (cs : List Value) (o : Nat) : EngP Z eb F t P (w.setCells x o cs) := by
  obtain ⟨a, S, N, e1, e2, e3, e4⟩ := h
  refine ⟨a, S, N, e1, fun k hk => ⟨?_, (e2 k hk).2⟩, e3.fresh (e2 x hx).2 cs o, e4⟩
  exact Nat.lt_of_lt_of_le (e2 k hk).1 (Two.setCells (g := x) (h := x) (.inl rfl) cs o (Two.refl x x w)).size
theorem EngP.drew (h : EngP Z eb F t P w) : EngP Z eb F t P w.drew := h.below (Below.refl _ _).drew
end
theorem wakeT_len (tl : List Tcl) (line : List Nat) (c : Nat) : (wakeT tl line c).1.length = tl.length := by
  unfold wakeT
  split
  · split
    · rfl
    · simp
  · rfl
section
variable {Z : Nat → Prop} {w : World} {eb : Nat} {cv kv G : Array Value} {T now : Int} {r : Nat}
end
end Go.Proofs.YtpanmfdbdgecaaaGreat.C
