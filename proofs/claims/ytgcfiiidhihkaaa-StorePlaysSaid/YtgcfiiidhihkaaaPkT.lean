/- The walks of slab.Slab[api.Packet]: Take, Give, New. -/
import Derived.Test.YtgcfiiidhihkaaaPkS
import Derived.Deep.DeepCutAuto
import Derived.RegionTactic
namespace Go.Proofs.Ytgcfiiidhihkaaa.C.PS
open Go.RowKit
set_option linter.unusedVariables false
set_option maxRecDepth 100000 in
theorem take_no (pb b : Nat) (first free : Int) (x : Array Value) (l : List (Place (Array Value))) (w : World) (h : SAt w pb b first free l) (hf : first < 0) :
    Calls Try.prog 64 #[.pointer (some ⟨pb, 0, none⟩), .agg x] w fun e w' => e = .returned (.tuple #[.int .i64 0, .bool false]) ∧ Below w.heap.size w w' := by
  have H := Lib.hid h
  clear h
  go_enter Try.func64, Try.ntmps64
  go_upto_region 1 with ((with_reducible refine arm_box 3 1 79 x ?_ ?_); rfl; intro w1 HB HX HS)
  have c1 := (H.out.below HB.out).c1
  go_wp2
  go_ret2
  exact ⟨rfl, HB.out⟩
set_option maxRecDepth 100000 in
theorem take_yes (pb b i : Nat) (free nx : Int) (x y : Array Value) (tk : Bool) (l : List (Place (Array Value))) (w : World) (h : SAt w pb b i free l) (hl : l.length ≤ 65536) (hp : Hid (l[i]? = some ⟨y, tk, nx⟩)) (hf0 : 0 ≤ free) (hf1 : free ≤ 65536) (hx : Pk x) :
    Calls Try.prog 64 #[.pointer (some ⟨pb, 0, none⟩), .agg x] w fun e w' => e = .returned (.tuple #[.int .i64 i, .bool true]) ∧ SAt w' pb b nx (free - 1) (l.set i ⟨x, true, 0⟩) ∧ Two pb b w w' := by
  have H := Lib.hid h
  have hi := lt_of_some hp.out
  have HPK := Lib.hid hx
  clear h hx
  go_enter Try.func64, Try.ntmps64
  go_upto_region 1 with ((with_reducible refine arm_box 3 1 79 x ?_ ?_); rfl; intro w1 HB HX HS)
  have h1 := H.out.below HB.out
  have hT : Two pb b w w1 := two_of_below HB.out
  have hlt := (Array.getElem?_eq_some_iff.1 H.out.ptr).1
  have hbx : w1.heap[w.heap.size]? = some (.cells x 79 (0, 0)) := HX.out
  generalize w.heap.size = bx at hbx hlt ⊢
  have c0 := h1.c0
  have c1 := h1.c1
  have q2 := h1.nx hp.out
  have f1 := h1.f 1
  have h2 := h1.setFirst nx
  have hT2 := hT.setCell (x := ⟨pb, 1, none⟩) (.inl rfl) (.int .i64 nx)
  have hbx2 : (w1.setCell ⟨pb, 1, none⟩ (.int .i64 nx)).heap[bx]? = some (.cells x 79 (0, 0)) := (heap_setCell_other _ _ _ _ (by show bx ≠ pb; omega)).trans hbx
  have H2 := Lib.hid h2
  have HT2 := Lib.hid hT2
  have HBX := Lib.hid hbx2
  clear HB HX HS H h1 hT hlt hbx h2 hT2 hbx2
  go_wp2_with fail
  refine wp_region_still_tail 8 (by kernel_rfl) (by kernel_rfl) ?_
  generalize w1.setCell ⟨pb, 1, none⟩ (.int .i64 nx) = w2 at *
  change wpStill _ _ w2.drew (fun a' => wpList _ _ _ _ a' w2.drew) _ _
  simp only [List.take_succ_cons, List.take_zero, List.drop_succ_cons, List.drop_zero]
  have h3 : SAt w2.drew pb b nx free l := ⟨H2.out.ptr, H2.out.row, H2.out.ok⟩
  have hT3 : Two pb b w w2.drew := HT2.out.drewN 1
  have hbx3 : w2.drew.heap[bx]? = some (.cells x 79 (0, 0)) := HBX.out
  generalize w2.drew = w3 at h3 hT3 hbx3 ⊢
  have c0' := h3.c0
  have hld := pkt_load hbx3 HPK.out
  have hst := h3.storePlace hi (p := ⟨x, true, 0⟩) HPK.out
  have h4 := h3.setPlace hi (p := ⟨x, true, 0⟩) HPK.out
  have hT4 := Two.setCells (g := pb) (h := b) (b := b) (.inr rfl) (cellP ⟨x, true, 0⟩) (i * 48) hT3
  have hbl := build_take HPK.out w3
  have H4 := Lib.hid h4
  have HT4 := Lib.hid hT4
  clear h3 hT3 hbx3 h4 hT4 H2 HT2 HBX c0 c1 q2 f1
  iterate 5 still_step
  refine wpStill_by (by rfl) (exec_load rfl hld) ?_
  simp only [Act.put, List.setIfInBounds_toArray, List.set_cons_zero, List.set_cons_succ]
  refine wpStill_by (by rfl) (exec_build (vals := #[(0, .agg x), (1, .bool true)]) (by first | rfl | simp [Act.eval]) hbl) ?_
  simp only [Act.put, List.setIfInBounds_toArray, List.set_cons_zero, List.set_cons_succ]
  still_step
  refine wpStill_nil ?_
  refine arm_store 38 37 137 (.pointer (some ⟨b, i * 48, none⟩)) (.agg (cellP ⟨x, true, 0⟩).toArray) _ hst rfl rfl ?_
  clear hst hld hbl c0'
  generalize w3.setCells b (i * 48) (cellP ⟨x, true, 0⟩) = w4 at *
  have e2 := H4.out.c2
  have k2 := H4.out.f 2
  have H5 := Lib.hid (H4.out.setFree (free - 1))
  have HT5 := Lib.hid (HT4.out.setCell (x := ⟨pb, 2, none⟩) (.inl rfl) (.int .i64 (free - 1)))
  go_wp2
  go_ret2
  exact ⟨rfl, H5.out, HT5.out⟩
set_option maxRecDepth 100000 in
theorem give_no (pb b : Nat) (first free i : Int) (l : List (Place (Array Value))) (w : World) (h : SAt w pb b first free l) (hl : l.length ≤ 65536) (hh : hasP l i = false) :
    Calls Try.prog 68 #[.pointer (some ⟨pb, 0, none⟩), .int .i64 i] w fun e w' => e = .returned (.tuple #[.agg PZ, .bool false]) ∧ Below w.heap.size w w' := by
  have C := Lib.hid (fun w' h' => get_no pb b first free i l w' h' hl hh)
  have H := Lib.hid h
  clear h hh
  go_enter Try.func68, Try.ntmps68
  go_wp2_with ((with_reducible refine arm_alloc 4 79 PZ 46 pz_zero ?_); intro w1 HB HX HS)
  refine (C.out _ (H.out.below HB.out)).mono ?_
  rintro e w2 ⟨rfl, hB2⟩
  have hX2 := keep_block hB2 HX.out
  have hlt := (Array.getElem?_eq_some_iff.1 hX2).1
  have HX2 := Lib.hid hX2
  have HB2 := Lib.hid (HB.out.trans (hB2.mono HB.out.size))
  clear C H hB2 HB HX hX2 HS
  go_upto_region 2 with (first
    | ((with_reducible refine arm_alloc 6 79 PZ 46 pz_zero ?_); intro w3 HB3 HX3 HS3; have hst := pkt_store HX3.out pk_zero)
    | ((with_reducible refine arm_store 6 12 79 (.pointer (some ⟨w2.heap.size, 0, none⟩)) (.agg PZ) _ hst ?_ ?_ ?_); rfl; rfl))
  clear hst
  have HB5 := Lib.hid (below_setCells (b := w2.heap.size) (Nat.le_refl _) PZ.toList 0 HB3.out)
  have hbx5 := box_whole HX3.out (cs := PZ) rfl
  have hX5 := keep_block HB5.out HX2.out
  have HB6 := Lib.hid (HB2.out.trans (HB5.out.mono HB2.out.size))
  generalize w3.setCells w2.heap.size 0 PZ.toList = w5 at *
  generalize w2.heap.size = b2 at *
  have hld := pkt_load hbx5 pk_zero
  have hst := pkt_store hX5 pk_zero
  have HX5 := Lib.hid hX5
  clear hbx5 hX5 HB3 HX3 HS3 HB5 HB2 HX2
  go_wp2_with (first
    | ((with_reducible refine arm_load 37 6 79 (.pointer (some ⟨b2, 0, none⟩)) (.agg PZ) hld ?_ ?_); rfl)
    | ((with_reducible refine arm_store 4 37 79 (.pointer (some ⟨w.heap.size, 0, none⟩)) (.agg PZ) _ hst ?_ ?_ ?_); rfl; rfl))
  have hbx := box_whole HX5.out (cs := PZ) rfl
  refine bodyPost_ret (res_row_tmp rfl _ _ _ _ _ _ _ rfl hbx Try.underlying79 rfl pkt_size) rfl ?_
  exact ⟨rfl, below_setCells (Nat.le_refl _) _ _ HB6.out⟩
set_option maxRecDepth 100000 in
set_option maxHeartbeats 400000 in
theorem give_yes (pb b i : Nat) (first free nx : Int) (x : Array Value) (l : List (Place (Array Value))) (w : World) (h : SAt w pb b first free l) (hl : l.length ≤ 65536) (hp : Hid (l[i]? = some ⟨x, true, nx⟩)) (hf0 : 0 ≤ free) (hf1 : free ≤ 65536) :
    Calls Try.prog 68 #[.pointer (some ⟨pb, 0, none⟩), .int .i64 i] w fun e w' => e = .returned (.tuple #[.agg x, .bool true]) ∧ SAt w' pb b i (free + 1) (l.set i ⟨PZ, false, first⟩) ∧ Two pb b w w' := by
  have C := Lib.hid (fun w' h' => get_yes pb b i first free nx l x w' h' hl hp)
  have HPK := Lib.hid (h.ok.get hp.out)
  have hi := lt_of_some hp.out
  have H := Lib.hid h
  clear h
  go_enter Try.func68, Try.ntmps68
  go_wp2_with ((with_reducible refine arm_alloc 4 79 PZ 46 pz_zero ?_); intro w1 HB HX HS)
  refine (C.out _ (H.out.below HB.out)).mono ?_
  rintro e w2 ⟨rfl, hB2⟩
  have hX2 := keep_block hB2 HX.out
  have hlt := (Array.getElem?_eq_some_iff.1 hX2).1
  have HX2 := Lib.hid hX2
  have HB2 := Lib.hid (HB.out.trans (hB2.mono HB.out.size))
  clear C hB2 HB HX hX2 HS
  go_upto_region 2 with (first
    | ((with_reducible refine arm_alloc 6 79 PZ 46 pz_zero ?_); intro w3 HB3 HX3 HS3; have hst := pkt_store HX3.out HPK.out)
    | ((with_reducible refine arm_store 6 12 79 (.pointer (some ⟨w2.heap.size, 0, none⟩)) (.agg x) _ hst ?_ ?_ ?_); rfl; rfl))
  clear hst
  have HB5 := Lib.hid (below_setCells (b := w2.heap.size) (Nat.le_refl _) x.toList 0 HB3.out)
  have hbx5 := box_whole HX3.out (cs := x) HPK.out.size
  have hX5 := keep_block HB5.out HX2.out
  have hB6 := HB2.out.trans (HB5.out.mono HB2.out.size)
  have h5 := H.out.below hB6
  have hT5 : Two pb b w (w3.setCells w2.heap.size 0 x.toList) := two_of_below hB6
  have ho1 := (Array.getElem?_eq_some_iff.1 H.out.ptr).1
  have ho2 := (Array.getElem?_eq_some_iff.1 H.out.row).1
  have hlt2 := HB2.out.size
  generalize w3.setCells w2.heap.size 0 x.toList = w5 at *
  generalize w2.heap.size = b2 at *
  have ho3 : b2 ≠ pb ∧ b2 ≠ b ∧ w.heap.size ≠ pb ∧ w.heap.size ≠ b ∧ b2 ≠ w.heap.size := ⟨by omega, by omega, by omega, by omega, by omega⟩
  generalize hb1 : w.heap.size = b1 at *
  have HB1 := Lib.hid hb1
  clear hb1
  have H5 := Lib.hid h5
  have HT5 := Lib.hid hT5
  have HBX := Lib.hid hbx5
  have HX5 := Lib.hid hX5
  have HO := Lib.hid ho3
  clear hbx5 hX5 HB3 HX3 HS3 HB5 HB2 HX2 H hB6 h5 hT5 ho1 ho2 hlt2 hlt ho3
  go_wp2_with fail
  refine wp_region_still_tail 11 (by kernel_rfl) (by kernel_rfl) ?_
  change wpStill _ _ w5.drew (fun a' => wpList _ _ _ _ a' w5.drew) _ _
  simp only [List.take_succ_cons, List.take_zero, List.drop_succ_cons, List.drop_zero]
  have h6 : SAt w5.drew pb b first free l := ⟨H5.out.ptr, H5.out.row, H5.out.ok⟩
  have hT6 : Two pb b w w5.drew := HT5.out.drewN 1
  have hbx6 : w5.drew.heap[b2]? = some (.cells x 79 (0, 0)) := HBX.out
  have hX6 : w5.drew.heap[b1]? = some (.cells PZ 79 (0, 0)) := HX5.out
  generalize w5.drew = w6 at h6 hT6 hbx6 hX6 ⊢
  have c0 := h6.c0
  have c1 := h6.c1
  have hst := h6.storePlace hi (p := ⟨PZ, false, first⟩) pk_zero
  have h7 := h6.setPlace hi (p := ⟨PZ, false, first⟩) pk_zero
  have hT7 := Two.setCells (g := pb) (h := b) (b := b) (.inr rfl) (cellP ⟨PZ, false, first⟩) (i * 48) hT6
  have hbl := build_give first w6
  have HBX7 := Lib.hid ((heap_setCells_other (cellP ⟨PZ, false, first⟩) (i * 48) w6 b b2 HO.out.2.1).trans hbx6)
  have HX7 := Lib.hid ((heap_setCells_other (cellP ⟨PZ, false, first⟩) (i * 48) w6 b b1 HO.out.2.2.2.1).trans hX6)
  have H7 := Lib.hid h7
  have HT7 := Lib.hid hT7
  clear h6 hT6 hbx6 hX6 h7 hT7 H5 HT5 HBX HX5
  iterate 9 still_step
  refine wpStill_by (by rfl) (exec_build (vals := #[(2, .int .i64 first)]) (by first | rfl | simp [Act.eval]) hbl) ?_
  simp only [Act.put, List.setIfInBounds_toArray, List.set_cons_zero, List.set_cons_succ]
  still_step
  refine wpStill_nil ?_
  refine arm_store 25 24 137 (.pointer (some ⟨b, i * 48, none⟩)) (.agg (cellP ⟨PZ, false, first⟩).toArray) _ hst rfl rfl ?_
  clear hst hbl c0 c1
  generalize w6.setCells b (i * 48) (cellP ⟨PZ, false, first⟩) = w7 at *
  have e1 := H7.out.c1
  have k1 := H7.out.f 1
  have h8 := H7.out.setFirst i
  have e2 := h8.c2
  have k2 := h8.f 2
  have h9 := h8.setFree (free + 1)
  have hT9 := (HT7.out.setCell (x := ⟨pb, 1, none⟩) (.inl rfl) (.int .i64 i)).setCell (x := ⟨pb, 2, none⟩) (.inl rfl) (.int .i64 (free + 1))
  have hbx9 : ((w7.setCell ⟨pb, 1, none⟩ (.int .i64 i)).setCell ⟨pb, 2, none⟩ (.int .i64 (free + 1))).heap[b2]? = some (.cells x 79 (0, 0)) := by
    rw [heap_setCell_other _ _ _ _ (by simpa using HO.out.1), heap_setCell_other _ _ _ _ (by simpa using HO.out.1)]
    exact HBX7.out
  have hX9 : ((w7.setCell ⟨pb, 1, none⟩ (.int .i64 i)).setCell ⟨pb, 2, none⟩ (.int .i64 (free + 1))).heap[b1]? = some (.cells PZ 79 (0, 0)) := by
    rw [heap_setCell_other _ _ _ _ (by simpa using HO.out.2.2.1), heap_setCell_other _ _ _ _ (by simpa using HO.out.2.2.1)]
    exact HX7.out
  have HBX9 := Lib.hid hbx9
  have HX9 := Lib.hid hX9
  have H9 := Lib.hid h9
  have HT9 := Lib.hid hT9
  clear h8 h9 hT9 hbx9 hX9 H7 HT7 HBX7 HX7
  go_upto_region 6 with (fail)
  clear e1 k1 e2 k2
  generalize (w7.setCell ⟨pb, 1, none⟩ (.int .i64 i)).setCell ⟨pb, 2, none⟩ (.int .i64 (free + 1)) = w9 at *
  have hld := pkt_load HBX9.out HPK.out
  have hst := pkt_store HX9.out HPK.out
  go_wp2_with (first
    | ((with_reducible refine arm_load 37 6 79 (.pointer (some ⟨b2, 0, none⟩)) (.agg x) hld ?_ ?_); rfl)
    | ((with_reducible refine arm_store 4 37 79 (.pointer (some ⟨b1, 0, none⟩)) (.agg x) _ hst ?_ ?_ ?_); rfl; rfl))
  have hbx := box_whole HX9.out (cs := x) HPK.out.size
  refine bodyPost_ret (res_row_tmp rfl _ _ _ _ _ _ _ rfl hbx Try.underlying79 rfl (by rw [pkt_size, HPK.out.size])) rfl ?_
  have ht : Two b1 b1 w9 (w9.setCells b1 0 x.toList) := Two.setCells (.inl rfl) _ _ (Two.refl b1 b1 w9)
  have ho := HO.out
  exact ⟨rfl, H9.out.two ht (by omega) (by omega) (by omega) (by omega), HT9.out.newCells (by have := HB1.out; omega) _ _⟩
end Go.Proofs.Ytgcfiiidhihkaaa.C.PS
