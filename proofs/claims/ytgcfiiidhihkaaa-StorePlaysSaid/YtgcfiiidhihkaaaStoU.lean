/- The walk of Cut (stores). -/
import Derived.Test.YtgcfiiidhihkaaaStoT
import Derived.Test.YtgcfiiidhihkaaaOnceP
namespace Go.Proofs.Ytgcfiiidhihkaaa.C
open Go.RowKit
set_option linter.unusedVariables false
/-- A store between two of its steps. -/
structure Mid (w0 w : World) (a : Adr) (L : List (List (Array Value))) (R : Nat) (A : List (Option (Array Value))) (fl : List Nat) (Q : List (List Nat)) : Prop where
  amg : Amg a.bs w0 w
  ptr : w.heap[a.sb]? = some (.cells #[.pointer (some ⟨a.ps, 0, none⟩), .pointer (some ⟨a.pb, 0, none⟩), .slice (some ⟨a.bb, 0, none⟩) L.length L.length] 127 (0, 0))
  slab : PS.Slab w a.ps a.pr A fl
  chain : CH.Chain w a.pb a.b1 a.b2 Q R
  bytes : w.heap[a.bb]? = some (.cells (bytesV L).toArray 2 (0, 0))
  lt0 : a.sb < w0.heap.size ∧ a.ps < w0.heap.size ∧ a.pr < w0.heap.size ∧ a.pb < w0.heap.size ∧ a.b1 < w0.heap.size ∧ a.b2 < w0.heap.size ∧ a.bb < w0.heap.size
section
variable {w0 w w' : World} {a : Adr} {L : List (List (Array Value))} {R : Nat} {A A' : List (Option (Array Value))} {fl fl' : List Nat} {Q Q' : List (List Nat)}
theorem Mid.start (h : StAt w0 a L R A fl Q) : Mid w0 w0 a L R A fl Q := ⟨Amg.refl _ _, h.ptr, h.slab, h.chain, h.bytes, h.lt⟩
theorem Mid.ne (h : Mid w0 w a L R A fl Q) : (a.sb ≠ a.ps ∧ a.sb ≠ a.pr ∧ a.sb ≠ a.pb ∧ a.sb ≠ a.b1 ∧ a.sb ≠ a.b2 ∧ a.sb ≠ a.bb) ∧ (a.ps ≠ a.pr ∧ a.ps ≠ a.pb ∧ a.ps ≠ a.b1 ∧ a.ps ≠ a.b2 ∧ a.ps ≠ a.bb) ∧ (a.pr ≠ a.pb ∧ a.pr ≠ a.b1 ∧ a.pr ≠ a.b2 ∧ a.pr ≠ a.bb) ∧ (a.pb ≠ a.b1 ∧ a.pb ≠ a.b2 ∧ a.pb ≠ a.bb) ∧ a.b1 ≠ a.b2 ∧ a.b1 ≠ a.bb ∧ a.b2 ≠ a.bb := by
  obtain ⟨_, _, l, hS, _⟩ := h.slab
  obtain ⟨ln, lk, hC, _⟩ := h.chain
  refine ⟨⟨ne_ty h.ptr hS.ptr (by decide), ne_ty h.ptr hS.row (by decide), ne_ty h.ptr hC.ptr (by decide), ne_ty h.ptr hC.r1 (by decide), ne_ty h.ptr hC.r2 (by decide), ne_ty h.ptr h.bytes (by decide)⟩,
    ⟨ne_ty hS.ptr hS.row (by decide), ne_ty hS.ptr hC.ptr (by decide), ne_ty hS.ptr hC.r1 (by decide), ne_ty hS.ptr hC.r2 (by decide), ne_ty hS.ptr h.bytes (by decide)⟩,
    ⟨ne_ty hS.row hC.ptr (by decide), ne_ty hS.row hC.r1 (by decide), ne_ty hS.row hC.r2 (by decide), ne_ty hS.row h.bytes (by decide)⟩,
    ⟨ne_ty hC.ptr hC.r1 (by decide), ne_ty hC.ptr hC.r2 (by decide), ne_ty hC.ptr h.bytes (by decide)⟩, ne_ty hC.r1 hC.r2 (by decide), ne_ty hC.r1 h.bytes (by decide), ne_ty hC.r2 h.bytes (by decide)⟩
theorem Mid.below (h : Mid w0 w a L R A fl Q) (p : Below w.heap.size w w') : Mid w0 w' a L R A fl Q :=
  ⟨h.amg.trans (Amg.of_below p), keep_block p h.ptr, h.slab.below p, h.chain.below p, keep_block p h.bytes, h.lt0⟩
theorem Mid.drewN (h : Mid w0 w a L R A fl Q) (n : Nat) : Mid w0 (w.drewN n) a L R A fl Q := h.below (below_drewN (Below.refl _ _) n)
theorem Mid.lines (h : Mid w0 w a L R A fl Q) (hc : CH.Chain w' a.pb a.b1 a.b2 Q' R) (p : Two a.b1 a.b2 w w') : Mid w0 w' a L R A fl Q' := by
  obtain ⟨⟨e1, e2, e3, e4, e5, e6⟩, ⟨f1, f2, f3, f4, f5⟩, ⟨g1, g2, g3, g4⟩, ⟨i1, i2, i3⟩, j1, j2, j3⟩ := h.ne
  exact ⟨h.amg.trans (Amg.of_two p (by simp [Adr.bs]) (by simp [Adr.bs])), (p.block a.sb (Array.getElem?_eq_some_iff.1 h.ptr).1 e4 e5).trans h.ptr, h.slab.two p f3 f4 g2 g3, hc,
    (p.block a.bb (Array.getElem?_eq_some_iff.1 h.bytes).1 (fun e => j2 e.symm) (fun e => j3 e.symm)).trans h.bytes, h.lt0⟩
theorem Mid.places (h : Mid w0 w a L R A fl Q) (hs : PS.Slab w' a.ps a.pr A' fl') (p : Two a.ps a.pr w w') : Mid w0 w' a L R A' fl' Q := by
  obtain ⟨⟨e1, e2, e3, e4, e5, e6⟩, ⟨f1, f2, f3, f4, f5⟩, ⟨g1, g2, g3, g4⟩, ⟨i1, i2, i3⟩, j1, j2, j3⟩ := h.ne
  exact ⟨h.amg.trans (Amg.of_two p (by simp [Adr.bs]) (by simp [Adr.bs])), (p.block a.sb (Array.getElem?_eq_some_iff.1 h.ptr).1 e1 e2).trans h.ptr, hs, chain_two h.chain p ⟨fun e => f2 e.symm, fun e => g1 e.symm⟩ ⟨fun e => f3 e.symm, fun e => g2 e.symm⟩ ⟨fun e => f4 e.symm, fun e => g3 e.symm⟩,
    (p.block a.bb (Array.getElem?_eq_some_iff.1 h.bytes).1 (fun e => f5 e.symm) (fun e => g4 e.symm)).trans h.bytes, h.lt0⟩
theorem Mid.fresh {b : Nat} (h : Mid w0 w a L R A fl Q) (hb : w0.heap.size ≤ b) (p : Two b b w w') : Mid w0 w' a L R A fl Q := by
  obtain ⟨k1, k2, k3, k4, k5, k6, k7⟩ := h.lt0
  have ha : Amg a.bs w0 w' := ⟨p.os.trans h.amg.os, p.tape.trans h.amg.tape, p.output.trans h.amg.output, Nat.le_trans h.amg.size p.size, fun k hk hn => (p.block k (Nat.lt_of_lt_of_le hk h.amg.size) (by omega) (by omega)).trans (h.amg.block k hk hn)⟩
  exact ⟨ha, (p.block a.sb (Array.getElem?_eq_some_iff.1 h.ptr).1 (by omega) (by omega)).trans h.ptr, h.slab.two p (by omega) (by omega) (by omega) (by omega), chain_two h.chain p ⟨by omega, by omega⟩ ⟨by omega, by omega⟩ ⟨by omega, by omega⟩,
    (p.block a.bb (Array.getElem?_eq_some_iff.1 h.bytes).1 (by omega) (by omega)).trans h.bytes, h.lt0⟩
theorem Mid.byteSet (h : Mid w0 w a L R A fl Q) (c : Nat) (l : List (Array Value)) : Mid w0 (w.setCell ⟨a.bb, c, none⟩ (.int .i64 (sumL l))) a (L.set c l) R A fl Q := by
  obtain ⟨⟨e1, e2, e3, e4, e5, e6⟩, ⟨f1, f2, f3, f4, f5⟩, ⟨g1, g2, g3, g4⟩, ⟨i1, i2, i3⟩, j1, j2, j3⟩ := h.ne
  have p : Two a.bb a.bb w (w.setCell ⟨a.bb, c, none⟩ (.int .i64 (sumL l))) := (Two.refl a.bb a.bb w).setCell (x := ⟨a.bb, c, none⟩) (.inl rfl) _
  exact ⟨h.amg.trans (Amg.of_two p (by simp [Adr.bs]) (by simp [Adr.bs])), by rw [List.length_set]; exact (p.block a.sb (Array.getElem?_eq_some_iff.1 h.ptr).1 e6 e6).trans h.ptr, h.slab.two p f5 f5 g4 g4, chain_two h.chain p ⟨i3, i3⟩ ⟨j2, j2⟩ ⟨j3, j3⟩, bytes_store h.bytes l, h.lt0⟩
theorem Mid.done (h : Mid w0 w a L R A fl Q) (hl : Linked A Q L fl R) : Sto w a L R ∧ Amg a.bs w0 w := ⟨⟨A, fl, Q, h.ptr, h.slab, h.chain, h.bytes, hl⟩, h.amg⟩
theorem Mid.c0 (h : Mid w0 w a L R A fl Q) : w.cell? ⟨a.sb, 0, none⟩ = some (.pointer (some ⟨a.ps, 0, none⟩)) := by rw [cell_of_row _ _ _ _ _ _ h.ptr]; rfl
theorem Mid.c1 (h : Mid w0 w a L R A fl Q) : w.cell? ⟨a.sb, 1, none⟩ = some (.pointer (some ⟨a.pb, 0, none⟩)) := by rw [cell_of_row _ _ _ _ _ _ h.ptr]; rfl
theorem Mid.c2 (h : Mid w0 w a L R A fl Q) : w.cell? ⟨a.sb, 2, none⟩ = some (.slice (some ⟨a.bb, 0, none⟩) L.length L.length) := by rw [cell_of_row _ _ _ _ _ _ h.ptr]; rfl
theorem Mid.byte (h : Mid w0 w a L R A fl Q) {c : Nat} {l : List (Array Value)} (hl : L[c]? = some l) : w.cell? ⟨a.bb, c, none⟩ = some (.int .i64 (sumL l)) := by
  rw [cell_of_row _ _ _ _ _ _ h.bytes, List.getElem?_toArray]
  exact bytesV_at hl
theorem Mid.bfr (h : Mid w0 w a L R A fl Q) (c : Nat) : w.frozen? ⟨a.bb, c, none⟩ = false := frozen_of_row _ _ _ _ _ h.bytes
end
section
variable {w : World} {a : Adr} {L : List (List (Array Value))} {R : Nat}
theorem build_zero (w : World) : (Instr.build 79 #[]).run Try.prog w = .ok (.agg PZ) w := run_build w 79 #[] PZ pz_built
set_option maxRecDepth 100000 in
theorem st_cut_class (c k : Int) (h : Sto w a L R) (hc : ¬ (0 ≤ c ∧ c < L.length)) :
    Calls Try.prog 51 #[.pointer (some ⟨a.sb, 0, none⟩), .int .i64 c, .int .i64 k] w fun e w' => e = .returned (.tuple #[.agg PZ, .bool false]) ∧ Below w.heap.size w w' := by
  obtain ⟨A, fl, Q, h⟩ := h
  have hl := h.len
  have C := Lib.hid (fun w' (p : Below w.heap.size w w') => has_st a c L.length w' (h.below p).c2 (by omega))
  rw [decide_eq_false hc] at C
  clear h hc hl
  go_enter Try.func51, Try.ntmps51
  go_upto_region 1 with ((with_reducible refine arm_alloc 6 79 PZ 46 pz_zero ?_); intro w1 HB HX HS)
  have hst := pkt_store HX.out pk_zero
  go_wp2_with fail
  refine (C.out _ HB.out).mono ?_
  rintro e w2 ⟨rfl, rfl⟩
  have hbl := build_zero w2
  go_wp2_with (first
    | ((with_reducible refine arm_build 15 79 #[] #[] (.agg PZ) hbl ?_ ?_); rfl)
    | ((with_reducible refine arm_store 6 15 79 (.pointer (some ⟨w.heap.size, 0, none⟩)) (.agg PZ) _ hst ?_ ?_ ?_); rfl; rfl))
  have hbx := box_whole HX.out (cs := PZ) rfl
  refine bodyPost_ret (res_row_tmp rfl _ _ _ _ _ _ _ rfl hbx Try.underlying79 rfl pkt_size) rfl ?_
  exact ⟨rfl, below_setCells (Nat.le_refl _) _ _ HB.out⟩
set_option maxRecDepth 100000 in
theorem st_cut_place (c k : Int) (A : List (Option (Array Value))) (fl : List Nat) (Q : List (List Nat)) (h : StAt w a L R A fl Q) (hc : 0 ≤ c ∧ c < L.length) (hn : ∀ (l k' : Nat) (q : List Nat), c = l → k = k' → Q[l]? = some q → q[k']? = none) :
    Calls Try.prog 51 #[.pointer (some ⟨a.sb, 0, none⟩), .int .i64 c, .int .i64 k] w fun e w' => e = .returned (.tuple #[.agg PZ, .bool false]) ∧ Below w.heap.size w w' := by
  have hl := h.len
  have C := Lib.hid (fun w' (p : Below w.heap.size w w') => has_st a c L.length w' (h.below p).c2 (by omega))
  rw [decide_eq_true hc] at C
  have CC := Lib.hid (fun w' (p : Below w.heap.size w w') => CH.c_cut_no c k (h.below p).chain hn)
  have HH := Lib.hid h
  clear h hc hl hn
  go_enter Try.func51, Try.ntmps51
  go_upto_region 1 with ((with_reducible refine arm_alloc 6 79 PZ 46 pz_zero ?_); intro w1 HB HX HS)
  have hst := pkt_store HX.out pk_zero
  have c1 := (HH.out.below HB.out).c1
  go_wp2_with fail
  refine (C.out _ HB.out).mono ?_
  rintro e w2 ⟨rfl, rfl⟩
  go_wp2_with fail
  refine (CC.out _ HB.out).mono ?_
  rintro e w3 ⟨rfl, rfl⟩
  have hbl := build_zero w3
  go_wp2_with (first
    | ((with_reducible refine arm_build 28 79 #[] #[] (.agg PZ) hbl ?_ ?_); rfl)
    | ((with_reducible refine arm_store 6 28 79 (.pointer (some ⟨w.heap.size, 0, none⟩)) (.agg PZ) _ hst ?_ ?_ ?_); rfl; rfl))
  have hbx := box_whole HX.out (cs := PZ) rfl
  refine bodyPost_ret (res_row_tmp rfl _ _ _ _ _ _ _ rfl hbx Try.underlying79 rfl pkt_size) rfl ?_
  exact ⟨rfl, below_setCells (Nat.le_refl _) _ _ HB.out⟩
set_option maxRecDepth 100000 in
set_option maxHeartbeats 800000 in
theorem st_cut_yes (c k : Nat) (n : Int) (x : Array Value) (l : List (Array Value)) (h : Sto w a L R) (hx : x[45]? = some (.int .i64 n)) (hl : L[c]? = some l) (hk : l[k]? = some x) :
    Calls Try.prog 51 #[.pointer (some ⟨a.sb, 0, none⟩), .int .i64 (c : Nat), .int .i64 (k : Nat)] w fun e w' => e = .returned (.tuple #[.agg x, .bool true]) ∧ Sto w' a (L.set c (l.eraseIdx k)) R ∧ Amg a.bs w w' := by
  obtain ⟨A, fl, Q, h⟩ := h
  obtain ⟨l1, l2, l3⟩ := h.len
  have hc := lt_of_some hl
  have hkl := lt_of_some hk
  obtain ⟨q, hq, hql⟩ := h.lk.line hl
  obtain ⟨p, hp⟩ : ∃ p, q[k]? = some p := ⟨_, List.getElem?_eq_getElem (by omega)⟩
  have hA : A[p]? = some (some x) := by
    obtain ⟨l', x', h1, h2, h3⟩ := h.lk.at_ hq hp
    rw [hl] at h1
    injection h1 with h1
    subst h1
    rw [hk] at h2
    injection h2 with h2
    rw [h2]
    exact h3
  have hpk := h.slab.pk hA
  have hlen : lenP x = n := by unfold lenP; rw [hx]
  have hlk := h.lk.cut hq hp hl (h.chain.nodup hq).1 fun c' q' hq' hm => by
    obtain ⟨k', hk'⟩ := List.getElem?_of_mem hm
    have e1 := h.chain.line_at hq' hk'
    have e2 := h.chain.line_at hq hp
    omega
  have hokx := h.lk.ok l (List.mem_of_getElem? hl) x (List.mem_of_getElem? hk)
  rw [hlen] at hokx
  obtain ⟨n1, n2⟩ := hokx
  have hs := sumL_bound l (h.lk.ok l (List.mem_of_getElem? hl))
  have hll := total_le L l (List.mem_of_getElem? hl)
  have hsum : sumL (l.eraseIdx k) = sumL l - n := by rw [sumL_erase l k x hk, hlen]
  have C := Lib.hid (fun w' (p : Below w.heap.size w w') => has_st a (c : Nat) L.length w' (h.below p).c2 (by omega))
  rw [decide_eq_true (show 0 ≤ (c : Int) ∧ (c : Int) < L.length by omega)] at C
  have CC := Lib.hid (fun w' (hh : Mid w w' a L R A fl Q) => CH.c_cut hh.chain hq hp)
  have CG := Lib.hid (fun w' Q' (hh : Mid w w' a L R A fl Q') => PS.s_give_yes (p : Nat) x hh.slab (by rw [getA_nat, hA]; rfl))
  simp only [Int.toNat_natCast] at CG
  have hsl : 0 ≤ sumL l ∧ sumL l ≤ 37748736 := by omega
  obtain ⟨s1, s2⟩ := hsl
  have hMid := Mid.start h
  have HM := Lib.hid hMid
  have HL := Lib.hid hx
  have HPK := Lib.hid hpk
  have HLK := Lib.hid hlk
  have HSU := Lib.hid hsum
  have HLL := Lib.hid hl
  have hcn : (c : Int) < (L.length : Int) := by omega
  clear h hx hlk hsum hs hl hq hA hpk hlen hk hkl hp hMid hll
  go_enter Try.func51, Try.ntmps51
  go_upto_region 1 with ((with_reducible refine arm_alloc 6 79 PZ 46 pz_zero ?_); intro w1 HB HX HS)
  have HM1 := Lib.hid (HM.out.below HB.out)
  have c1 := HM1.out.c1
  go_wp2_with fail
  refine (C.out _ HB.out).mono ?_
  rintro e w2 ⟨rfl, rfl⟩
  go_wp2_with fail
  refine (CC.out _ HM1.out).mono ?_
  rintro e w3 ⟨rfl, hC3, hT3⟩
  have HM3 := Lib.hid (HM1.out.lines hC3 hT3)
  have HX3 := Lib.hid ((hT3.block w.heap.size (Array.getElem?_eq_some_iff.1 HX.out).1 (fun e => by have := HM.out.lt0; omega) (fun e => by have := HM.out.lt0; omega)).trans HX.out)
  clear c1 HM1 hC3 hT3 HX HB HS C CC
  have c0 := HM3.out.c0
  go_wp2_with fail
  refine (CG.out _ _ HM3.out).mono ?_
  rintro e w4 ⟨rfl, hS4, hT4⟩
  have HM4 := Lib.hid (HM3.out.places hS4 hT4)
  have HX4 := Lib.hid ((hT4.block w.heap.size (Array.getElem?_eq_some_iff.1 HX3.out).1 (fun e => by have := HM.out.lt0; omega) (fun e => by have := HM.out.lt0; omega)).trans HX3.out)
  clear c0 HM3 HX3 hS4 hT4 CG
  go_upto_region 7 with (first
    | ((with_reducible refine arm_alloc 10 79 PZ 46 pz_zero ?_); intro w5 HB5 HX5 HS5; have hst := pkt_store HX5.out HPK.out)
    | ((with_reducible refine arm_store 10 36 79 (.pointer (some ⟨w4.heap.size, 0, none⟩)) (.agg x) _ hst ?_ ?_ ?_); rfl; rfl))
  clear hst
  have hsz4 := HM4.out.amg.size
  have hlt4 := (Array.getElem?_eq_some_iff.1 HX4.out).1
  have hT6 : Two w4.heap.size w4.heap.size w5 (w5.setCells w4.heap.size 0 x.toList) := Two.setCells (.inl rfl) _ _ (Two.refl _ _ _)
  have hbx6 := box_whole HX5.out (cs := x) HPK.out.size
  have hM6 := (HM4.out.below HB5.out).fresh hsz4 hT6
  have hX6 := (hT6.block w.heap.size (by have := HB5.out.size; omega) (by omega) (by omega)).trans (keep_block HB5.out HX4.out)
  clear HM4 HX4 HB5 HX5 HS5 hT6
  generalize w5.setCells w4.heap.size 0 x.toList = w6 at *
  generalize w4.heap.size = b4 at *
  have c2 := hM6.c2
  have hby := hM6.byte HLL.out
  have hfz := hM6.bfr c
  have hcell : w6.cell? ⟨b4, 45, none⟩ = some (.int .i64 n) := by rw [cell_of_row _ _ _ _ _ _ hbx6]; exact HL.out
  have hM7 := (hM6.drewN 1).byteSet c (l.eraseIdx k)
  rw [HSU.out] at hM7
  have HM7 : Hid (Mid w (w6.setCell ⟨a.bb, c, none⟩ (.int .i64 (sumL l - n))).drew a (L.set c (l.eraseIdx k)) R (A.set p none) (p :: fl) (Q.set c (q.eraseIdx k))) := hM7
  have hne4 : b4 ≠ a.bb ∧ w.heap.size ≠ a.bb := ⟨fun e => by have := HM.out.lt0; omega, fun e => by have := HM.out.lt0; omega⟩
  have HX7 : Hid ((w6.setCell ⟨a.bb, c, none⟩ (.int .i64 (sumL l - n))).drew.heap[w.heap.size]? = some (.cells PZ 79 (0, 0))) := (heap_setCell_other _ ⟨a.bb, c, none⟩ _ _ (by simpa using hne4.2)).trans hX6
  have HY7 : Hid ((w6.setCell ⟨a.bb, c, none⟩ (.int .i64 (sumL l - n))).drew.heap[b4]? = some (.cells x 79 (0, 0))) := (heap_setCell_other _ ⟨a.bb, c, none⟩ _ _ (by simpa using hne4.1)).trans hbx6
  have hwn : IntKind.i64.wrap (sumL l - n) = sumL l - n := IntWalk.i64_in _ (by omega)
  clear hM6 hX6 hbx6 hM7 hne4 HM
  generalize sumL l = sl at *
  go_wp2_with fail
  refine wp_region_still_tail 11 (by kernel_rfl) (by kernel_rfl) ?_
  change wpStill _ _ w6.drew (fun a' => wpList _ _ _ _ a' w6.drew) _ _
  simp only [List.take_succ_cons, List.take_zero, List.drop_succ_cons, List.drop_zero]
  iterate 11 still_step
  refine wpStill_nil ?_
  go_upto_region 8 with (fail)
  clear c2 hby hfz hcell hwn
  generalize (w6.setCell ⟨a.bb, c, none⟩ (.int .i64 (sl - n))).drew = w7 at *
  have hld := pkt_load HY7.out HPK.out
  have hst := pkt_store HX7.out HPK.out
  go_wp2_with (first
    | ((with_reducible refine arm_load 49 10 79 (.pointer (some ⟨b4, 0, none⟩)) (.agg x) hld ?_ ?_); rfl)
    | ((with_reducible refine arm_store 6 49 79 (.pointer (some ⟨w.heap.size, 0, none⟩)) (.agg x) _ hst ?_ ?_ ?_); rfl; rfl))
  have hbx := box_whole HX7.out (cs := x) HPK.out.size
  refine bodyPost_ret (res_row_tmp rfl _ _ _ _ _ _ _ rfl hbx Try.underlying79 rfl (by rw [pkt_size, HPK.out.size])) rfl ?_
  exact ⟨rfl, (HM7.out.fresh (Nat.le_refl _) (Two.setCells (.inl rfl) _ _ (Two.refl _ _ _))).done HLK.out⟩
end
end Go.Proofs.Ytgcfiiidhihkaaa.C
