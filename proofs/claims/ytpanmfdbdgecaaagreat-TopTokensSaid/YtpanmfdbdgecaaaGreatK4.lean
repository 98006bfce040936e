/- The walk of Cut (stores). · The walks of At, Head, Pop, Len, Bytes, Free, New (stores). · The walks of Pop, New (stores). · Numbers: Count, Add of two, Mul, Sub. · The parts' New: blue, sketch, window, token, table, box, turns, pace. · Configs that are right: in, parts, Right. -/
import Derived.Test.YtpanmfdbdgecaaaGreatK3
namespace Go.Proofs.YtpanmfdbdgecaaaGreat.C
open Go.RowKit
set_option linter.unusedVariables false
/-- A store between two of its steps. -/
structure Mid (w0 w : World) (a : Adr) (L : List (List (Array Value))) (R : Nat) (A : List (Option (Array Value))) (fl : List Nat) (Q : List (List Nat)) : Prop where
  amg : Amg a.bs w0 w
  ptr : w.heap[a.sb]? = some (.cells #[.pointer (some ⟨a.ps, 0, none⟩), .pointer (some ⟨a.pb, 0, none⟩), .slice (some ⟨a.bb, 0, none⟩) L.length L.length] 224 (0, 0))
  slab : PS.Slab w a.ps a.pr A fl
  chain : CH.Chain w a.pb a.b1 a.b2 Q R
  bytes : w.heap[a.bb]? = some (.cells (bytesV L).toArray 2 (0, 0))
  lt0 : a.sb < w0.heap.size ∧ a.ps < w0.heap.size ∧ a.pr < w0.heap.size ∧ a.pb < w0.heap.size ∧ a.b1 < w0.heap.size ∧ a.b2 < w0.heap.size ∧ a.bb < w0.heap.size
section
variable {w0 w w' : World} {a : Adr} {L : List (List (Array Value))} {R : Nat} {A A' : List (Option (Array Value))} {fl fl' : List Nat} {Q Q' : List (List Nat)}
theorem Mid.start (h : StAt w0 a L R A fl Q) : Mid w0 w0 a L R A fl Q := ⟨Amg.refl _ _, h.ptr, h.slab, h.chain, h.bytes, h.lt⟩
theorem Mid.ne (h : Mid w0 w a L R A fl Q) : (a.sb ≠ a.ps ∧ a.sb ≠ a.pr ∧ a.sb ≠ a.pb ∧ a.sb ≠ a.b1 ∧ a.sb ≠ a.b2 ∧ a.sb ≠ a.bb) ∧ (a.ps ≠ a.pr ∧ a.ps ≠ a.pb ∧ a.ps ≠ a.b1 ∧ a.ps ≠ a.b2 ∧ a.ps ≠ a.bb) ∧ (a.pr ≠ a.pb ∧ a.pr ≠ a.b1 ∧ a.pr ≠ a.b2 ∧ a.pr ≠ a.bb) ∧ (a.pb ≠ a.b1 ∧ a.pb ≠ a.b2 ∧ a.pb ≠ a.bb) ∧ a.b1 ≠ a.b2 ∧ a.b1 ≠ a.bb ∧ a.b2 ≠ a.bb := by
  obtain ⟨_, _, l, hS, _⟩ := h.slab
  obtain ⟨ln, lk, hC, _⟩ := h.chain
  refine ⟨⟨ne_ty h.ptr hS.ptr (by decide), ne_ty h.ptr hS.row (by decide), ne_ty h.ptr hC.ptr (by decide), ne_ty h.ptr hC.r1 (by decide), ne_ty h.ptr hC.r2 (by decide), ne_ty h.ptr h.bytes (by decide)⟩,
    ⟨ne_ty hS.ptr hS.row (by decide), ne_ty hS.ptr hC.ptr (by decide), ne_ty hS.ptr hC.r1 (by decide), ne_ty hS.ptr hC.r2 (by decide), ne_ty hS.ptr h.bytes (by decide)⟩,
    ⟨ne_ty hS.row hC.ptr (by decide), ne_ty hS.row hC.r1 (by decide), ne_ty hS.row hC.r2 (by decide), ne_ty hS.row h.bytes (by decide)⟩,
    ⟨ne_ty hC.ptr hC.r1 (by decide), ne_ty hC.ptr hC.r2 (by decide), ne_ty hC.ptr h.bytes (by decide)⟩, ne_ty hC.r1 hC.r2 (by decide), ne_ty hC.r1 h.bytes (by decide), ne_ty hC.r2 h.bytes (by decide)⟩
theorem Mid.below (h : Mid w0 w a L R A fl Q) (p : Below w.heap.size w w') : Mid w0 w' a L R A fl Q :=
  ⟨h.amg.trans (Amg.of_below p), keep_block p h.ptr, h.slab.below p, h.chain.below p, keep_block p h.bytes, h.lt0⟩
theorem Mid.drewN (h : Mid w0 w a L R A fl Q) (n : Nat) : Mid w0 (w.drewN n) a L R A fl Q := h.below (below_drewN (Below.refl _ _) n)
theorem Mid.lines (h : Mid w0 w a L R A fl Q) (hc : CH.Chain w' a.pb a.b1 a.b2 Q' R) (p : Two a.b1 a.b2 w w') : Mid w0 w' a L R A fl Q' := by
  obtain ⟨⟨e1, e2, e3, e4, e5, e6⟩, ⟨f1, f2, f3, f4, f5⟩, ⟨g1, g2, g3, g4⟩, ⟨i1, i2, i3⟩, j1, j2, j3⟩ := h.ne
  exact ⟨h.amg.trans (Amg.of_two p (by simp [Adr.bs]) (by simp [Adr.bs])), (p.block a.sb (Array.getElem?_eq_some_iff.1 h.ptr).1 e4 e5).trans h.ptr, h.slab.two p f3 f4 g2 g3, hc,
    (p.block a.bb (Array.getElem?_eq_some_iff.1 h.bytes).1 (fun e => j2 e.symm) (fun e => j3 e.symm)).trans h.bytes, h.lt0⟩
theorem Mid.places (h : Mid w0 w a L R A fl Q) (hs : PS.Slab w' a.ps a.pr A' fl') (p : Two a.ps a.pr w w') : Mid w0 w' a L R A' fl' Q := by
  obtain ⟨⟨e1, e2, e3, e4, e5, e6⟩, ⟨f1, f2, f3, f4, f5⟩, ⟨g1, g2, g3, g4⟩, ⟨i1, i2, i3⟩, j1, j2, j3⟩ := h.ne
  exact ⟨h.amg.trans (Amg.of_two p (by simp [Adr.bs]) (by simp [Adr.bs])), (p.block a.sb (Array.getElem?_eq_some_iff.1 h.ptr).1 e1 e2).trans h.ptr, hs, chain_two h.chain p ⟨fun e => f2 e.symm, fun e => g1 e.symm⟩ ⟨fun e => f3 e.symm, fun e => g2 e.symm⟩ ⟨fun e => f4 e.symm, fun e => g3 e.symm⟩,
    (p.block a.bb (Array.getElem?_eq_some_iff.1 h.bytes).1 (fun e => f5 e.symm) (fun e => g4 e.symm)).trans h.bytes, h.lt0⟩
theorem Mid.fresh {b : Nat} (h : Mid w0 w a L R A fl Q) (hb : w0.heap.size ≤ b) (p : Two b b w w') : Mid w0 w' a L R A fl Q := by
  obtain ⟨k1, k2, k3, k4, k5, k6, k7⟩ := h.lt0
  have ha : Amg a.bs w0 w' := ⟨p.os.trans h.amg.os, p.tape.trans h.amg.tape, p.output.trans h.amg.output, Nat.le_trans h.amg.size p.size, fun k hk hn => (p.block k (Nat.lt_of_lt_of_le hk h.amg.size) (by omega) (by omega)).trans (h.amg.block k hk hn)⟩
  exact ⟨ha, (p.block a.sb (Array.getElem?_eq_some_iff.1 h.ptr).1 (by omega) (by omega)).trans h.ptr, h.slab.two p (by omega) (by omega) (by omega) (by omega), chain_two h.chain p ⟨by omega, by omega⟩ ⟨by omega, by omega⟩ ⟨by omega, by omega⟩,
    (p.block a.bb (Array.getElem?_eq_some_iff.1 h.bytes).1 (by omega) (by omega)).trans h.bytes, h.lt0⟩
theorem Mid.byteSet (h : Mid w0 w a L R A fl Q) (c : Nat) (l : List (Array Value)) : Mid w0 (w.setCell ⟨a.bb, c, none⟩ (.int .i64 (sumL l))) a (L.set c l) R A fl Q := by
  obtain ⟨⟨e1, e2, e3, e4, e5, e6⟩, ⟨f1, f2, f3, f4, f5⟩, ⟨g1, g2, g3, g4⟩, ⟨i1, i2, i3⟩, j1, j2, j3⟩ := h.ne
  have p : Two a.bb a.bb w (w.setCell ⟨a.bb, c, none⟩ (.int .i64 (sumL l))) := (Two.refl a.bb a.bb w).setCell (x := ⟨a.bb, c, none⟩) (.inl rfl) _
  exact ⟨h.amg.trans (Amg.of_two p (by simp [Adr.bs]) (by simp [Adr.bs])), by rw [List.length_set]; exact (p.block a.sb (Array.getElem?_eq_some_iff.1 h.ptr).1 e6 e6).trans h.ptr, h.slab.two p f5 f5 g4 g4, chain_two h.chain p ⟨i3, i3⟩ ⟨j2, j2⟩ ⟨j3, j3⟩, bytes_store h.bytes l, h.lt0⟩
theorem Mid.done (h : Mid w0 w a L R A fl Q) (hl : Linked A Q L fl R) : Sto w a L R ∧ Amg a.bs w0 w := ⟨⟨A, fl, Q, h.ptr, h.slab, h.chain, h.bytes, hl⟩, h.amg⟩
theorem Mid.c0 (h : Mid w0 w a L R A fl Q) : w.cell? ⟨a.sb, 0, none⟩ = some (.pointer (some ⟨a.ps, 0, none⟩)) := by rw [cell_of_row _ _ _ _ _ _ h.ptr]; rfl
theorem Mid.c1 (h : Mid w0 w a L R A fl Q) : w.cell? ⟨a.sb, 1, none⟩ = some (.pointer (some ⟨a.pb, 0, none⟩)) := by rw [cell_of_row _ _ _ _ _ _ h.ptr]; rfl
theorem Mid.c2 (h : Mid w0 w a L R A fl Q) : w.cell? ⟨a.sb, 2, none⟩ = some (.slice (some ⟨a.bb, 0, none⟩) L.length L.length) := by rw [cell_of_row _ _ _ _ _ _ h.ptr]; rfl
theorem Mid.byte (h : Mid w0 w a L R A fl Q) {c : Nat} {l : List (Array Value)} (hl : L[c]? = some l) : w.cell? ⟨a.bb, c, none⟩ = some (.int .i64 (sumL l)) := by
  rw [cell_of_row _ _ _ _ _ _ h.bytes, List.getElem?_toArray]
  exact bytesV_at hl
theorem Mid.bfr (h : Mid w0 w a L R A fl Q) (c : Nat) : w.frozen? ⟨a.bb, c, none⟩ = false := frozen_of_row _ _ _ _ _ h.bytes
end
section
variable {w : World} {a : Adr} {L : List (List (Array Value))} {R : Nat}
theorem build_zero (w : World) : (Instr.build 68 #[]).run Tryz.prog w = .ok (.agg PZ) w := run_build w 68 #[] PZ pz_built
set_option maxRecDepth 100000 in
theorem st_cut_class (c k : Int) (h : Sto w a L R) (hc : ¬ (0 ≤ c ∧ c < L.length)) :
    Calls Tryz.prog 136 #[.pointer (some ⟨a.sb, 0, none⟩), .int .i64 c, .int .i64 k] w fun e w' => e = .returned (.tuple #[.agg PZ, .bool false]) ∧ Below w.heap.size w w' := by
  obtain ⟨A, fl, Q, h⟩ := h
  have hl := h.len
  have C := Lib.hid (fun w' (p : Below w.heap.size w w') => has_st a c L.length w' (h.below p).c2 (by omega))
  rw [decide_eq_false hc] at C
  clear h hc hl
  go_enter Tryz.func136, Tryz.ntmps136
  go_upto_region 1 with ((with_reducible refine arm_alloc 6 68 PZ 46 pz_zero ?_); intro w1 HB HX HS)
  have hst := pkt_store HX.out pk_zero
  go_wp2_with fail
  refine (C.out _ HB.out).mono ?_
  rintro e w2 ⟨rfl, rfl⟩
  have hbl := build_zero w2
  go_wp2_with (first
    | ((with_reducible refine arm_build 15 68 #[] #[] (.agg PZ) hbl ?_ ?_); rfl)
    | ((with_reducible refine arm_store 6 15 68 (.pointer (some ⟨w.heap.size, 0, none⟩)) (.agg PZ) _ hst ?_ ?_ ?_); rfl; rfl))
  have hbx := box_whole HX.out (cs := PZ) rfl
  refine bodyPost_ret (res_row_tmp rfl _ _ _ _ _ _ _ rfl hbx Tryz.underlying68 rfl pkt_size) rfl ?_
  exact ⟨rfl, below_setCells (Nat.le_refl _) _ _ HB.out⟩
set_option maxRecDepth 100000 in
theorem st_cut_place (c k : Int) (A : List (Option (Array Value))) (fl : List Nat) (Q : List (List Nat)) (h : StAt w a L R A fl Q) (hc : 0 ≤ c ∧ c < L.length) (hn : ∀ (l k' : Nat) (q : List Nat), c = l → k = k' → Q[l]? = some q → q[k']? = none) :
    Calls Tryz.prog 136 #[.pointer (some ⟨a.sb, 0, none⟩), .int .i64 c, .int .i64 k] w fun e w' => e = .returned (.tuple #[.agg PZ, .bool false]) ∧ Below w.heap.size w w' := by
  have hl := h.len
  have C := Lib.hid (fun w' (p : Below w.heap.size w w') => has_st a c L.length w' (h.below p).c2 (by omega))
  rw [decide_eq_true hc] at C
  have CC := Lib.hid (fun w' (p : Below w.heap.size w w') => CH.c_cut_no c k (h.below p).chain hn)
  have HH := Lib.hid h
  clear h hc hl hn
  go_enter Tryz.func136, Tryz.ntmps136
  go_upto_region 1 with ((with_reducible refine arm_alloc 6 68 PZ 46 pz_zero ?_); intro w1 HB HX HS)
  have hst := pkt_store HX.out pk_zero
  have c1 := (HH.out.below HB.out).c1
  go_wp2_with fail
  refine (C.out _ HB.out).mono ?_
  rintro e w2 ⟨rfl, rfl⟩
  go_wp2_with fail
  refine (CC.out _ HB.out).mono ?_
  rintro e w3 ⟨rfl, rfl⟩
  have hbl := build_zero w3
  go_wp2_with (first
    | ((with_reducible refine arm_build 28 68 #[] #[] (.agg PZ) hbl ?_ ?_); rfl)
    | ((with_reducible refine arm_store 6 28 68 (.pointer (some ⟨w.heap.size, 0, none⟩)) (.agg PZ) _ hst ?_ ?_ ?_); rfl; rfl))
  have hbx := box_whole HX.out (cs := PZ) rfl
  refine bodyPost_ret (res_row_tmp rfl _ _ _ _ _ _ _ rfl hbx Tryz.underlying68 rfl pkt_size) rfl ?_
  exact ⟨rfl, below_setCells (Nat.le_refl _) _ _ HB.out⟩
set_option maxRecDepth 100000 in
set_option maxHeartbeats 800000 in
theorem st_cut_yes (c k : Nat) (n : Int) (x : Array Value) (l : List (Array Value)) (h : Sto w a L R) (hx : x[45]? = some (.int .i64 n)) (hl : L[c]? = some l) (hk : l[k]? = some x) :
    Calls Tryz.prog 136 #[.pointer (some ⟨a.sb, 0, none⟩), .int .i64 (c : Nat), .int .i64 (k : Nat)] w fun e w' => e = .returned (.tuple #[.agg x, .bool true]) ∧ Sto w' a (L.set c (l.eraseIdx k)) R ∧ Amg a.bs w w' := by
  obtain ⟨A, fl, Q, h⟩ := h
  obtain ⟨l1, l2, l3⟩ := h.len
  have hc := lt_of_some hl
  have hkl := lt_of_some hk
  obtain ⟨q, hq, hql⟩ := h.lk.line hl
  obtain ⟨p, hp⟩ : ∃ p, q[k]? = some p := ⟨_, List.getElem?_eq_getElem (by omega)⟩
  have hA : A[p]? = some (some x) := by
    obtain ⟨l', x', h1, h2, h3⟩ := h.lk.at_ hq hp
    rw [hl] at h1
    injection h1 with h1
    subst h1
    rw [hk] at h2
    injection h2 with h2
    rw [h2]
    exact h3
  have hpk := h.slab.pk hA
  have hlen : lenP x = n := by unfold lenP; rw [hx]
  have hlk := h.lk.cut hq hp hl (h.chain.nodup hq).1 fun c' q' hq' hm => by
    obtain ⟨k', hk'⟩ := List.getElem?_of_mem hm
    have e1 := h.chain.line_at hq' hk'
    have e2 := h.chain.line_at hq hp
    omega
  have hokx := h.lk.ok l (List.mem_of_getElem? hl) x (List.mem_of_getElem? hk)
  rw [hlen] at hokx
  obtain ⟨n1, n2⟩ := hokx
  have hs := sumL_bound l (h.lk.ok l (List.mem_of_getElem? hl))
  have hll := total_le L l (List.mem_of_getElem? hl)
  have hsum : sumL (l.eraseIdx k) = sumL l - n := by rw [sumL_erase l k x hk, hlen]
  have C := Lib.hid (fun w' (p : Below w.heap.size w w') => has_st a (c : Nat) L.length w' (h.below p).c2 (by omega))
  rw [decide_eq_true (show 0 ≤ (c : Int) ∧ (c : Int) < L.length by omega)] at C
  have CC := Lib.hid (fun w' (hh : Mid w w' a L R A fl Q) => CH.c_cut hh.chain hq hp)
  have CG := Lib.hid (fun w' Q' (hh : Mid w w' a L R A fl Q') => PS.s_give_yes (p : Nat) x hh.slab (by rw [getA_nat, hA]; rfl))
  simp only [Int.toNat_natCast] at CG
  have hsl : 0 ≤ sumL l ∧ sumL l ≤ 37748736 := by omega
  obtain ⟨s1, s2⟩ := hsl
  have hMid := Mid.start h
  have HM := Lib.hid hMid
  have HL := Lib.hid hx
  have HPK := Lib.hid hpk
  have HLK := Lib.hid hlk
  have HSU := Lib.hid hsum
  have HLL := Lib.hid hl
  have hcn : (c : Int) < (L.length : Int) := by omega
  clear h hx hlk hsum hs hl hq hA hpk hlen hk hkl hp hMid hll
  go_enter Tryz.func136, Tryz.ntmps136
  go_upto_region 1 with ((with_reducible refine arm_alloc 6 68 PZ 46 pz_zero ?_); intro w1 HB HX HS)
  have HM1 := Lib.hid (HM.out.below HB.out)
  have c1 := HM1.out.c1
  go_wp2_with fail
  refine (C.out _ HB.out).mono ?_
  rintro e w2 ⟨rfl, rfl⟩
  go_wp2_with fail
  refine (CC.out _ HM1.out).mono ?_
  rintro e w3 ⟨rfl, hC3, hT3⟩
  have HM3 := Lib.hid (HM1.out.lines hC3 hT3)
  have HX3 := Lib.hid ((hT3.block w.heap.size (Array.getElem?_eq_some_iff.1 HX.out).1 (fun e => by have := HM.out.lt0; omega) (fun e => by have := HM.out.lt0; omega)).trans HX.out)
  clear c1 HM1 hC3 hT3 HX HB HS C CC
  have c0 := HM3.out.c0
  go_wp2_with fail
  refine (CG.out _ _ HM3.out).mono ?_
  rintro e w4 ⟨rfl, hS4, hT4⟩
  have HM4 := Lib.hid (HM3.out.places hS4 hT4)
  have HX4 := Lib.hid ((hT4.block w.heap.size (Array.getElem?_eq_some_iff.1 HX3.out).1 (fun e => by have := HM.out.lt0; omega) (fun e => by have := HM.out.lt0; omega)).trans HX3.out)
  clear c0 HM3 HX3 hS4 hT4 CG
  go_upto_region 7 with (first
    | ((with_reducible refine arm_alloc 10 68 PZ 46 pz_zero ?_); intro w5 HB5 HX5 HS5; have hst := pkt_store HX5.out HPK.out)
    | ((with_reducible refine arm_store 10 36 68 (.pointer (some ⟨w4.heap.size, 0, none⟩)) (.agg x) _ hst ?_ ?_ ?_); rfl; rfl))
  clear hst
  have hsz4 := HM4.out.amg.size
  have hlt4 := (Array.getElem?_eq_some_iff.1 HX4.out).1
  have hT6 : Two w4.heap.size w4.heap.size w5 (w5.setCells w4.heap.size 0 x.toList) := Two.setCells (.inl rfl) _ _ (Two.refl _ _ _)
  have hbx6 := box_whole HX5.out (cs := x) HPK.out.size
  have hM6 := (HM4.out.below HB5.out).fresh hsz4 hT6
  have hX6 := (hT6.block w.heap.size (by have := HB5.out.size; omega) (by omega) (by omega)).trans (keep_block HB5.out HX4.out)
  clear HM4 HX4 HB5 HX5 HS5 hT6
  generalize w5.setCells w4.heap.size 0 x.toList = w6 at *
  generalize w4.heap.size = b4 at *
  have c2 := hM6.c2
  have hby := hM6.byte HLL.out
  have hfz := hM6.bfr c
  have hcell : w6.cell? ⟨b4, 45, none⟩ = some (.int .i64 n) := by rw [cell_of_row _ _ _ _ _ _ hbx6]; exact HL.out
  have hM7 := (hM6.drewN 1).byteSet c (l.eraseIdx k)
  rw [HSU.out] at hM7
  have HM7 : Hid (Mid w (w6.setCell ⟨a.bb, c, none⟩ (.int .i64 (sumL l - n))).drew a (L.set c (l.eraseIdx k)) R (A.set p none) (p :: fl) (Q.set c (q.eraseIdx k))) := hM7
  have hne4 : b4 ≠ a.bb ∧ w.heap.size ≠ a.bb := ⟨fun e => by have := HM.out.lt0; omega, fun e => by have := HM.out.lt0; omega⟩
  have HX7 : Hid ((w6.setCell ⟨a.bb, c, none⟩ (.int .i64 (sumL l - n))).drew.heap[w.heap.size]? = some (.cells PZ 68 (0, 0))) := (heap_setCell_other _ ⟨a.bb, c, none⟩ _ _ (by simpa using hne4.2)).trans hX6
  have HY7 : Hid ((w6.setCell ⟨a.bb, c, none⟩ (.int .i64 (sumL l - n))).drew.heap[b4]? = some (.cells x 68 (0, 0))) := (heap_setCell_other _ ⟨a.bb, c, none⟩ _ _ (by simpa using hne4.1)).trans hbx6
  have hwn : IntKind.i64.wrap (sumL l - n) = sumL l - n := IntWalk.i64_in _ (by omega)
  clear hM6 hX6 hbx6 hM7 hne4 HM
  generalize sumL l = sl at *
  go_wp2_with fail
  refine wp_region_still_tail 11 (by kernel_rfl) (by kernel_rfl) ?_
  change wpStill _ _ w6.drew (fun a' => wpList _ _ _ _ a' w6.drew) _ _
  simp only [List.take_succ_cons, List.take_zero, List.drop_succ_cons, List.drop_zero]
  iterate 11 still_step
  refine wpStill_nil ?_
  go_upto_region 8 with (fail)
  clear c2 hby hfz hcell hwn
  generalize (w6.setCell ⟨a.bb, c, none⟩ (.int .i64 (sl - n))).drew = w7 at *
  have hld := pkt_load HY7.out HPK.out
  have hst := pkt_store HX7.out HPK.out
  go_wp2_with (first
    | ((with_reducible refine arm_load 49 10 68 (.pointer (some ⟨b4, 0, none⟩)) (.agg x) hld ?_ ?_); rfl)
    | ((with_reducible refine arm_store 6 49 68 (.pointer (some ⟨w.heap.size, 0, none⟩)) (.agg x) _ hst ?_ ?_ ?_); rfl; rfl))
  have hbx := box_whole HX7.out (cs := x) HPK.out.size
  refine bodyPost_ret (res_row_tmp rfl _ _ _ _ _ _ _ rfl hbx Tryz.underlying68 rfl (by rw [pkt_size, HPK.out.size])) rfl ?_
  exact ⟨rfl, (HM7.out.fresh (Nat.le_refl _) (Two.setCells (.inl rfl) _ _ (Two.refl _ _ _))).done HLK.out⟩
end
end Go.Proofs.YtpanmfdbdgecaaaGreat.C

namespace Go.Proofs.YtpanmfdbdgecaaaGreat.C
open Go.RowKit
set_option linter.unusedVariables false
theorem lenP_cell {x : Array Value} (h : lenP x ≠ 0) : x[45]? = some (.int .i64 (lenP x)) := by
  unfold lenP at h ⊢
  split at h
  · rename_i n hn
    rw [hn]
  · exact absurd rfl h
/-- A class's k-th packet. -/
def atS (L : List (List (Array Value))) (c k : Int) : Option (Array Value) := if 0 ≤ c ∧ 0 ≤ k then (match L[c.toNat]? with | some l => l[k.toNat]? | none => none) else none
theorem atS_some {L : List (List (Array Value))} {c k : Nat} {l : List (Array Value)} (hl : L[c]? = some l) : atS L (c : Nat) (k : Nat) = l[k]? := by
  unfold atS
  rw [if_pos (by omega)]
  simp [hl]
theorem atS_cases (L : List (List (Array Value))) (c k : Int) : (∃ (c' k' : Nat) (l : List (Array Value)) (x : Array Value), c = c' ∧ k = k' ∧ L[c']? = some l ∧ l[k']? = some x ∧ atS L c k = some x) ∨ (atS L c k = none ∧ ∀ (c' k' : Nat) (l : List (Array Value)), c = c' → k = k' → L[c']? = some l → l[k']? = none) := by
  by_cases h : 0 ≤ c ∧ 0 ≤ k
  · obtain ⟨c, rfl⟩ := Int.eq_ofNat_of_zero_le h.1
    obtain ⟨k, rfl⟩ := Int.eq_ofNat_of_zero_le h.2
    cases hl : L[c]? with
    | none =>
      refine .inr ⟨by unfold atS; rw [if_pos h]; simp [hl], ?_⟩
      intro c' k' l e1 e2 hl'
      obtain rfl : c = c' := by omega
      rw [hl] at hl'; cases hl'
    | some l =>
      cases hx : l[k]? with
      | none =>
        refine .inr ⟨by rw [atS_some hl, hx], ?_⟩
        intro c' k' l' e1 e2 hl'
        obtain rfl : c = c' := by omega
        obtain rfl : k = k' := by omega
        rw [hl] at hl'
        injection hl' with hl'
        subst hl'
        exact hx
      | some x => exact .inl ⟨c, k, l, x, rfl, rfl, hl, hx, by rw [atS_some hl, hx]⟩
  · refine .inr ⟨by unfold atS; rw [if_neg h], ?_⟩
    intro c' k' l e1 e2 _
    omega
section
variable {w : World} {a : Adr} {L : List (List (Array Value))} {R : Nat}
/-- Nothing in the lists: nothing in the lines. -/
theorem StAt.none_at {A : List (Option (Array Value))} {fl : List Nat} {Q : List (List Nat)} (h : StAt w a L R A fl Q) {c k : Int} (hn : ∀ (c' k' : Nat) (l : List (Array Value)), c = c' → k = k' → L[c']? = some l → l[k']? = none) :
    ∀ (l k' : Nat) (q : List Nat), c = l → k = k' → Q[l]? = some q → q[k']? = none := by
  intro c' k' q e1 e2 hq
  cases hp : q[k']? with
  | none => rfl
  | some p =>
    obtain ⟨l, x, hl, hx, _⟩ := h.lk.at_ hq hp
    rw [hn c' k' l e1 e2 hl] at hx
    cases hx
set_option maxRecDepth 100000 in
theorem st_at (c k : Int) (h : Sto w a L R) :
    Calls Tryz.prog 44 #[.pointer (some ⟨a.sb, 0, none⟩), .int .i64 c, .int .i64 k] w fun e w' => e = .returned (.tuple #[.agg ((atS L c k).getD PZ), .bool (atS L c k).isSome]) ∧ Below w.heap.size w w' := by
  obtain ⟨A, fl, Q, h⟩ := h
  have hlen := h.len
  have C := Lib.hid (fun w' (p : Below w.heap.size w w') => has_st a c L.length w' (h.below p).c2 (by omega))
  rcases atS_cases L c k with ⟨c, k, l, x, rfl, rfl, hl, hx, he⟩ | ⟨he, hn⟩
  · rw [he]
    have hc := lt_of_some hl
    have hkl := lt_of_some hx
    obtain ⟨q, hq, hql⟩ := h.lk.line hl
    obtain ⟨p, hp⟩ : ∃ p, q[k]? = some p := ⟨_, List.getElem?_eq_getElem (by omega)⟩
    have hA : A[p]? = some (some x) := by
      obtain ⟨l', x', h1, h2, h3⟩ := h.lk.at_ hq hp
      rw [hl] at h1
      injection h1 with h1
      subst h1
      rw [hx] at h2
      injection h2 with h2
      rw [h2]
      exact h3
    rw [decide_eq_true (show 0 ≤ (c : Int) ∧ (c : Int) < L.length by omega)] at C
    have CA := Lib.hid (fun w' (p' : Below w.heap.size w w') => CH.c_at (h.below p').chain hq hp)
    have CG := Lib.hid (fun w' (p' : Below w.heap.size w w') => PS.s_get_yes (p : Nat) x (h.below p').slab (by rw [getA_nat, hA]; rfl))
    have HPK := Lib.hid (h.slab.pk hA)
    have HH := Lib.hid h
    clear h hl hx he hq hp hA hlen hql hkl
    go_enter Tryz.func44, Tryz.ntmps44
    go_upto_region 1 with ((with_reducible refine arm_alloc 6 68 PZ 46 pz_zero ?_); intro w1 HB HX HS)
    have c1 := (HH.out.below HB.out).c1
    go_wp2_with fail
    refine (C.out _ HB.out).mono ?_
    rintro e w2 ⟨rfl, rfl⟩
    go_wp2_with fail
    refine (CA.out _ HB.out).mono ?_
    rintro e w3 ⟨rfl, d, hw3⟩
    have hB3 : Below w.heap.size w w3 := by rw [hw3]; exact below_drewN HB.out d
    have HX3 : Hid (w3.heap[w.heap.size]? = some (.cells PZ 68 (0, 0))) := by rw [hw3]; exact Lib.hid HX.out
    have c0 := (HH.out.below hB3).c0
    have HB3 := Lib.hid hB3
    clear c1 hw3 hB3 HX HB HS
    go_wp2_with fail
    refine (CG.out _ HB3.out).mono ?_
    rintro e w4 ⟨rfl, hB4⟩
    have HX4 := Lib.hid (keep_block hB4 HX3.out)
    have HB4 := Lib.hid (HB3.out.trans (hB4.mono HB3.out.size))
    have hst := pkt_store HX4.out HPK.out
    clear c0 hB4 HX3 HB3
    go_wp2_with ((with_reducible refine arm_store 6 34 68 (.pointer (some ⟨w.heap.size, 0, none⟩)) (.agg x) _ hst ?_ ?_ ?_); rfl; rfl)
    have hbx := box_whole HX4.out (cs := x) HPK.out.size
    refine bodyPost_ret (res_row_tmp rfl _ _ _ _ _ _ _ rfl hbx Tryz.underlying68 rfl (by rw [pkt_size, HPK.out.size])) rfl ?_
    exact ⟨rfl, below_setCells (Nat.le_refl _) _ _ HB4.out⟩
  · rw [he]
    by_cases hc : 0 ≤ c ∧ c < L.length
    · rw [decide_eq_true hc] at C
      have CA := Lib.hid (fun w' (p' : Below w.heap.size w w') => CH.c_at_no c k (h.below p').chain (h.none_at hn))
      have HH := Lib.hid h
      clear h hn he hlen hc
      go_enter Tryz.func44, Tryz.ntmps44
      go_upto_region 1 with ((with_reducible refine arm_alloc 6 68 PZ 46 pz_zero ?_); intro w1 HB HX HS)
      have c1 := (HH.out.below HB.out).c1
      have hst := pkt_store HX.out pk_zero
      go_wp2_with fail
      refine (C.out _ HB.out).mono ?_
      rintro e w2 ⟨rfl, rfl⟩
      go_wp2_with fail
      refine (CA.out _ HB.out).mono ?_
      rintro e w3 ⟨rfl, d, hw3⟩
      have hB3 : Below w.heap.size w w3 := by rw [hw3]; exact below_drewN HB.out d
      have HX3 : Hid (w3.heap[w.heap.size]? = some (.cells PZ 68 (0, 0))) := by rw [hw3]; exact Lib.hid HX.out
      have hst := pkt_store HX3.out pk_zero
      have HB3 := Lib.hid hB3
      have hbl := build_zero w3
      clear c1 hw3 hB3 HX HB HS
      go_wp2_with (first
        | ((with_reducible refine arm_build 27 68 #[] #[] (.agg PZ) hbl ?_ ?_); rfl)
        | ((with_reducible refine arm_store 6 27 68 (.pointer (some ⟨w.heap.size, 0, none⟩)) (.agg PZ) _ hst ?_ ?_ ?_); rfl; rfl))
      have hbx := box_whole HX3.out (cs := PZ) rfl
      refine bodyPost_ret (res_row_tmp rfl _ _ _ _ _ _ _ rfl hbx Tryz.underlying68 rfl pkt_size) rfl ?_
      exact ⟨rfl, below_setCells (Nat.le_refl _) _ _ HB3.out⟩
    · rw [decide_eq_false hc] at C
      clear h hn he hlen hc
      go_enter Tryz.func44, Tryz.ntmps44
      go_upto_region 1 with ((with_reducible refine arm_alloc 6 68 PZ 46 pz_zero ?_); intro w1 HB HX HS)
      have hst := pkt_store HX.out pk_zero
      go_wp2_with fail
      refine (C.out _ HB.out).mono ?_
      rintro e w2 ⟨rfl, rfl⟩
      have hbl := build_zero w2
      go_wp2_with (first
        | ((with_reducible refine arm_build 14 68 #[] #[] (.agg PZ) hbl ?_ ?_); rfl)
        | ((with_reducible refine arm_store 6 14 68 (.pointer (some ⟨w.heap.size, 0, none⟩)) (.agg PZ) _ hst ?_ ?_ ?_); rfl; rfl))
      have hbx := box_whole HX.out (cs := PZ) rfl
      refine bodyPost_ret (res_row_tmp rfl _ _ _ _ _ _ _ rfl hbx Tryz.underlying68 rfl pkt_size) rfl ?_
      exact ⟨rfl, below_setCells (Nat.le_refl _) _ _ HB.out⟩
theorem st_len (c : Nat) (l : List (Array Value)) (h : Sto w a L R) (hl : L[c]? = some l) :
    Calls Tryz.prog 43 #[.pointer (some ⟨a.sb, 0, none⟩), .int .i64 (c : Nat)] w fun e w' => e = .returned (.int .i64 (l.length : Nat)) ∧ w' = w := by
  obtain ⟨A, fl, Q, h⟩ := h
  have hlen := h.len
  have hc := lt_of_some hl
  have C := Lib.hid (has_st a (c : Nat) L.length w h.c2 (by omega))
  rw [decide_eq_true (show 0 ≤ (c : Int) ∧ (c : Int) < L.length by omega)] at C
  obtain ⟨q, hq, hql⟩ := h.lk.line hl
  have CL := Lib.hid (CH.c_len h.chain hq)
  rw [hql] at CL
  have c1 := h.c1
  generalize l.length = n at *
  clear h hl hlen hc hql hq
  go_enter Tryz.func43, Tryz.ntmps43
  go_wp2_with fail
  refine C.out.mono ?_
  rintro e w1 ⟨rfl, rfl⟩
  go_wp2_with fail
  refine CL.out.mono ?_
  rintro e w1 ⟨rfl, rfl⟩
  go_wp2
  go_ret
  exact ⟨rfl, rfl⟩
theorem st_len_no (c : Int) (h : Sto w a L R) (hc : ¬ (0 ≤ c ∧ c < L.length)) :
    Calls Tryz.prog 43 #[.pointer (some ⟨a.sb, 0, none⟩), .int .i64 c] w fun e w' => e = .returned (.int .i64 0) ∧ w' = w := by
  obtain ⟨A, fl, Q, h⟩ := h
  have hlen := h.len
  have C := Lib.hid (has_st a c L.length w h.c2 (by omega))
  rw [decide_eq_false hc] at C
  clear h hlen hc
  go_enter Tryz.func43, Tryz.ntmps43
  go_wp2_with fail
  refine C.out.mono ?_
  rintro e w1 ⟨rfl, rfl⟩
  go_wp2
  go_ret
  exact ⟨rfl, rfl⟩
theorem st_bytes (c : Nat) (l : List (Array Value)) (h : Sto w a L R) (hl : L[c]? = some l) :
    Calls Tryz.prog 76 #[.pointer (some ⟨a.sb, 0, none⟩), .int .i64 (c : Nat)] w fun e w' => e = .returned (.int .i64 (sumL l)) ∧ w' = w := by
  obtain ⟨A, fl, Q, h⟩ := h
  have hlen := h.len
  have hc := lt_of_some hl
  have C := Lib.hid (has_st a (c : Nat) L.length w h.c2 (by omega))
  rw [decide_eq_true (show 0 ≤ (c : Int) ∧ (c : Int) < L.length by omega)] at C
  have c2 := h.c2
  have hb := h.byte hl
  generalize sumL l = n at *
  clear h hl
  have hcn : (c : Int) < (L.length : Int) := by omega
  go_enter Tryz.func76, Tryz.ntmps76
  go_wp2_with fail
  refine C.out.mono ?_
  rintro e w1 ⟨rfl, rfl⟩
  go_wp2
  go_ret
  exact ⟨rfl, rfl⟩
theorem st_bytes_no (c : Int) (h : Sto w a L R) (hc : ¬ (0 ≤ c ∧ c < L.length)) :
    Calls Tryz.prog 76 #[.pointer (some ⟨a.sb, 0, none⟩), .int .i64 c] w fun e w' => e = .returned (.int .i64 0) ∧ w' = w := by
  obtain ⟨A, fl, Q, h⟩ := h
  have hlen := h.len
  have C := Lib.hid (has_st a c L.length w h.c2 (by omega))
  rw [decide_eq_false hc] at C
  clear h hlen hc
  go_enter Tryz.func76, Tryz.ntmps76
  go_wp2_with fail
  refine C.out.mono ?_
  rintro e w1 ⟨rfl, rfl⟩
  go_wp2
  go_ret
  exact ⟨rfl, rfl⟩
end
end Go.Proofs.YtpanmfdbdgecaaaGreat.C

namespace Go.Proofs.YtpanmfdbdgecaaaGreat.C
open Go.RowKit
set_option linter.unusedVariables false
section
variable {w : World} {a : Adr} {L : List (List (Array Value))} {R : Nat}
/-- Cut at whatever numbers. -/
def cutS (L : List (List (Array Value))) (c k : Int) : List (List (Array Value)) := if (atS L c k).isSome then L.set c.toNat ((L.getD c.toNat []).eraseIdx k.toNat) else L
theorem Sto.lt (h : Sto w a L R) : ∀ x ∈ a.sb :: a.pb :: a.bs, x < w.heap.size := by
  obtain ⟨A, fl, Q, h⟩ := h
  obtain ⟨k1, k2, k3, k4, k5, k6, k7⟩ := h.lt
  intro x hx
  simp [Adr.bs] at hx
  omega
/-- Into a block of the call's own. -/
theorem Sto.fresh {w0 w w' : World} {b : Nat} (h : Sto w a L R) (ha : Amg a.bs w0 w) (hlt : ∀ x ∈ a.sb :: a.pb :: a.bs, x < w0.heap.size) (hb : w0.heap.size ≤ b) (p : Two b b w w') : Sto w' a L R ∧ Amg a.bs w0 w' := by
  obtain ⟨A, fl, Q, hS⟩ := h
  have hM : Mid w0 w a L R A fl Q := ⟨ha, hS.ptr, hS.slab, hS.chain, hS.bytes, ⟨hlt _ (by simp), hlt _ (by simp [Adr.bs]), hlt _ (by simp [Adr.bs]), hlt _ (by simp [Adr.bs]), hlt _ (by simp [Adr.bs]), hlt _ (by simp [Adr.bs]), hlt _ (by simp [Adr.bs])⟩⟩
  exact (hM.fresh hb p).done hS.lk
theorem st_cut (c k : Int) (h : Sto w a L R) :
    Calls Tryz.prog 136 #[.pointer (some ⟨a.sb, 0, none⟩), .int .i64 c, .int .i64 k] w fun e w' => e = .returned (.tuple #[.agg ((atS L c k).getD PZ), .bool (atS L c k).isSome]) ∧ Sto w' a (cutS L c k) R ∧ Amg a.bs w w' := by
  unfold cutS
  rcases atS_cases L c k with ⟨c, k, l, x, rfl, rfl, hl, hx, he⟩ | ⟨he, hn⟩
  · rw [he, Option.isSome_some, if_pos rfl]
    obtain ⟨A, fl, Q, hS⟩ := h
    have hok := hS.lk.ok l (List.mem_of_getElem? hl) x (List.mem_of_getElem? hx)
    have := st_cut_yes c k (lenP x) x l ⟨A, fl, Q, hS⟩ (lenP_cell (x := x) (by omega)) hl hx
    rw [Int.toNat_natCast, Int.toNat_natCast, List.getD_eq_getElem?_getD, hl]
    exact this
  · rw [he, Option.isSome_none, if_neg (by simp)]
    by_cases hc : 0 ≤ c ∧ c < L.length
    · have h0 := h
      obtain ⟨A, fl, Q, hS⟩ := h
      exact (st_cut_place c k A fl Q hS hc (hS.none_at hn)).mono fun e w' ⟨h1, h2⟩ => ⟨h1, h0.below h2, Amg.of_below h2⟩
    · exact (st_cut_class c k h hc).mono fun e w' ⟨h1, h2⟩ => ⟨h1, h.below h2, Amg.of_below h2⟩
theorem atS_pk {c k : Int} {x : Array Value} (h : Sto w a L R) (he : atS L c k = some x) : Pk x ∧ x[45]? = some (.int .i64 (lenP x)) ∧ 1 ≤ lenP x ∧ lenP x ≤ 9216 := by
  obtain ⟨A, fl, Q, h⟩ := h
  rcases atS_cases L c k with ⟨c, k, l, x', rfl, rfl, hl, hx, he'⟩ | ⟨he', hn⟩
  · rw [he] at he'
    injection he' with he'
    subst he'
    obtain ⟨q, hq, hql⟩ := h.lk.line hl
    have hkl := lt_of_some hx
    obtain ⟨p, hp⟩ : ∃ p, q[k]? = some p := ⟨_, List.getElem?_eq_getElem (by omega)⟩
    obtain ⟨l', x', h1, h2, h3⟩ := h.lk.at_ hq hp
    rw [hl] at h1
    injection h1 with h1
    subst h1
    rw [hx] at h2
    injection h2 with h2
    subst h2
    have := h.lk.ok l (List.mem_of_getElem? hl) x (List.mem_of_getElem? hx)
    exact ⟨h.slab.pk h3, lenP_cell (x := x) (by omega), this⟩
  · rw [he] at he'
    cases he'
theorem getD_pk {c k : Int} (h : Sto w a L R) : Pk ((atS L c k).getD PZ) := by
  cases he : atS L c k with
  | none => exact pk_zero
  | some x => exact (atS_pk h he).1
set_option maxRecDepth 100000 in
theorem st_pop (c : Int) (h : Sto w a L R) :
    Calls Tryz.prog 97 #[.pointer (some ⟨a.sb, 0, none⟩), .int .i64 c] w fun e w' => e = .returned (.tuple #[.agg ((atS L c 0).getD PZ), .bool (atS L c 0).isSome]) ∧ Sto w' a (cutS L c 0) R ∧ Amg a.bs w w' := by
  have CC := Lib.hid (fun w' (p : Below w.heap.size w w') => st_cut c 0 (h.below p))
  have HPK := Lib.hid (getD_pk (c := c) (k := 0) h)
  have hlt := h.lt
  have HLT := Lib.hid hlt
  clear h hlt
  generalize (atS L c 0).getD PZ = x at *
  generalize (atS L c 0).isSome = o at *
  go_enter Tryz.func97, Tryz.ntmps97
  go_upto_region 1 with ((with_reducible refine arm_alloc 4 68 PZ 46 pz_zero ?_); intro w1 HB HX HS)
  go_wp2_with fail
  refine (CC.out _ HB.out).mono ?_
  rintro e w2 ⟨rfl, hS2, hA2⟩
  have HX2 := Lib.hid (hA2.keep HX.out (fun hm => absurd (HLT.out w.heap.size (List.mem_cons_of_mem _ (List.mem_cons_of_mem _ hm))) (Nat.lt_irrefl _)))
  have HS2 := Lib.hid hS2
  have HA2 := Lib.hid ((Amg.of_below (bs := a.bs) HB.out).trans hA2)
  have hst := pkt_store HX2.out HPK.out
  clear CC hS2 hA2 HX HB
  go_wp2_with ((with_reducible refine arm_store 4 9 68 (.pointer (some ⟨w.heap.size, 0, none⟩)) (.agg x) _ hst ?_ ?_ ?_); rfl; rfl)
  have hbx := box_whole HX2.out (cs := x) HPK.out.size
  refine bodyPost_ret (res_row_tmp rfl _ _ _ _ _ _ _ rfl hbx Tryz.underlying68 rfl (by rw [pkt_size, HPK.out.size])) rfl ?_
  have ht : Two w.heap.size w.heap.size w2 (w2.setCells w.heap.size 0 x.toList) := Two.setCells (.inl rfl) _ _ (Two.refl _ _ _)
  exact ⟨rfl, HS2.out.fresh HA2.out HLT.out (Nat.le_refl _) ht⟩
end
theorem make_i64 (n : Nat) (hn : n ≤ 65536) (W : World) : (Instr.makeSlice 69 (.int .i64 (n : Int)) (.int .i64 (n : Int))).run Tryz.prog W = .ok (.slice (some ⟨W.heap.size, 0, none⟩) n n) (W.alloc (.cells (bytesV (List.replicate n [])).toArray 2)) := by
  obtain ⟨i0, hi, hz0, hz1, hz2⟩ := info_parts (show (Tryz.prog.info? 2).map (fun i => (i.zero, i.size, i.bytes)) = some (some (.int .i64 0), 1, 8) by kernel_rfl)
  have hr := run_make (P := Tryz.prog) W 69 2 i0 (.int .i64 0) Tryz.underlying69 hi hz0 .i64 .i64 n n (by omega) (by omega) (by rw [hz2]; omega) (by omega)
  simp only [Int.toNat_natCast] at hr
  rw [hr, hz1, Nat.mul_one]
  have e : madeCells (Value.int .i64 0).cells n = (bytesV (List.replicate n [])).toArray := by
    apply Array.toList_inj.1
    show (madeCells #[Value.int .i64 0] n).toList = _
    rw [toList_madeCells_one]
    simp [bytesV, sumL]
  rw [e]
set_option maxRecDepth 100000 in
theorem st_new (n R : Nat) (w : World) (h1 : 1 ≤ n) (h2 : n ≤ 129) (h3 : 1 ≤ R) (h4 : R ≤ 4096) :
    Calls Tryz.prog 60 #[.int .i64 (n : Nat), .int .i64 (R : Nat)] w fun e w' => ∃ a : Adr, e = .returned (.tuple #[.pointer (some ⟨a.sb, 0, none⟩), .int .i64 0]) ∧ (∀ x ∈ a.sb :: a.pb :: a.bs, w.heap.size ≤ x) ∧ Sto w' a (List.replicate n []) R ∧ Below w.heap.size w w' := by
  have C1 := Lib.hid (CH.c_new n R w h1 h2 h3 h4)
  have C2 := Lib.hid (fun w' => PS.s_new R w' h3 h4)
  have hmx : (if (R : Int) < 1 then (1 : Int) else (R : Int)) = (R : Int) := by rw [if_neg (by omega)]
  go_enter Tryz.func60, Tryz.ntmps60
  go_wp2_with fail
  refine C1.out.mono ?_
  rintro e w1 ⟨pb, b1, b2, rfl, g1, g2, g3, hC, hB⟩
  have HC := Lib.hid hC
  have HB := Lib.hid hB
  have HG := Lib.hid (And.intro g1 (And.intro g2 g3))
  clear C1 hC hB g1 g2 g3
  go_wp2_with fail
  refine (C2.out _).mono ?_
  rintro e w2 ⟨rfl, hS, hB2⟩
  have hmk := make_i64 n (by omega)
  have HS := Lib.hid hS
  have HB2 := Lib.hid hB2
  clear C2 hS hB2
  go_wp2
  go_ret2
  have hb2 := HB2.out
  have hg := HG.out
  have hs1 := HB.out.size
  have hs2 := hb2.size
  have p1 : Below w2.heap.size w2 (w2.alloc (.cells (bytesV (List.replicate n [])).toArray 2)) := (Below.refl _ _).alloc (Nat.le_refl _) _
  have p2 := p1.alloc (by simp) (.cells #[.pointer (some ⟨w1.heap.size + 1, 0, none⟩), .pointer (some ⟨pb, 0, none⟩), .slice (some ⟨w2.heap.size, 0, none⟩) n n] 224)
  refine ⟨⟨w2.heap.size + 1, w1.heap.size + 1, w1.heap.size, pb, b1, b2, w2.heap.size⟩, rfl, ?_, ⟨_, _, _, ⟨?_, HS.out.below p2, (HC.out.below hb2).below p2, ?_, Linked.new n R⟩⟩, (HB.out.trans (hb2.mono hs1)).trans (p2.mono (by omega))⟩
  · intro x hx
    simp [Adr.bs] at hx
    omega
  · rw [List.length_replicate]
    have := Go.heap_alloc_new (w2.alloc (.cells (bytesV (List.replicate n [])).toArray 2)) (.cells #[.pointer (some ⟨w1.heap.size + 1, 0, none⟩), .pointer (some ⟨pb, 0, none⟩), .slice (some ⟨w2.heap.size, 0, none⟩) n n] 224)
    simpa using this
  · rw [Go.heap_alloc_old _ _ (by simp)]
    exact Go.heap_alloc_new _ _
end Go.Proofs.YtpanmfdbdgecaaaGreat.C

namespace Go.Proofs.YtpanmfdbdgecaaaGreat.C
open Go.RowKit
set_option linter.unusedVariables false
/-- A number as a count. -/
def cnt (n : Int) : Int := if n < 0 then 0 else if 4611686018427387904 < n then 4611686018427387904 else n
theorem cnt_in {n : Int} (h0 : 0 ≤ n) (h1 : n ≤ 4611686018427387904) : cnt n = n := by unfold cnt; rw [if_neg (by omega), if_neg (by omega)]
theorem cnt_range (n : Int) : 0 ≤ cnt n ∧ cnt n ≤ 4611686018427387904 := by unfold cnt; split <;> (try split) <;> omega
/-- The sum of two counts. -/
def addC (x y : Int) : Int := if 4611686018427387904 < cnt x + cnt y then 4611686018427387904 else cnt x + cnt y
theorem addC_range (x y : Int) : 0 ≤ addC x y ∧ addC x y ≤ 4611686018427387904 := by
  have := cnt_range x
  have := cnt_range y
  unfold addC
  split <;> omega
theorem addC_in {x y : Int} (h0 : 0 ≤ x) (h1 : 0 ≤ y) (h2 : x + y ≤ 4611686018427387904) : addC x y = x + y := by
  unfold addC
  rw [cnt_in h0 (by omega), cnt_in h1 (by omega), if_neg (by omega)]
theorem num_count (n : Int) (w : World) : Calls Tryz.prog 105 #[.int .i64 n] w fun e w' => e = .returned (.int .i64 (cnt n)) ∧ w' = w := by
  obtain ⟨u, hu⟩ : ∃ u, (if (4611686018427387904 : Int) < n then (4611686018427387904 : Int) else n) = u := ⟨_, rfl⟩
  obtain ⟨v, hv⟩ : ∃ v, (if (0 : Int) < u then u else 0) = v := ⟨_, rfl⟩
  have e : cnt n = v := by
    unfold cnt
    split at hu <;> split at hv <;> (repeat' split) <;> omega
  rw [e]
  clear e
  go_enter Tryz.func105, Tryz.ntmps105
  go_wp2
  go_ret
  exact ⟨rfl, rfl⟩
/-- What the loop of Add has, after so many. -/
def partC (x y : Int) (k : Nat) : Int := if k = 0 then 0 else if k = 1 then cnt x else addC x y
theorem num_add (x y : Int) (b : Nat) (w : World) (c0 : w.cell? ⟨b, 0, none⟩ = some (.int .i64 x)) (c1 : w.cell? ⟨b, 1, none⟩ = some (.int .i64 y)) :
    Calls Tryz.prog 51 #[.slice (some ⟨b, 0, none⟩) 2 2] w fun e w' => e = .returned (.int .i64 (addC x y)) ∧ w' = w := by
  have C := Lib.hid num_count
  have HX := Lib.hid (cnt_range x)
  have HY := Lib.hid (cnt_range y)
  go_enter Tryz.func51, Tryz.ntmps51
  go_wp2_with fail
  go_loopw [3, 9] (fun s c wr => ∃ k : Nat, k ≤ 2 ∧ c = .int .i64 (k : Nat) ∧ s = .int .i64 (partC x y k) ∧ wr = w) (fun _ c _ => 2 - (intOf c).toNat)
  case atStart => exact ⟨0, by omega, rfl, rfl, rfl⟩
  case round =>
    obtain ⟨k, hk, rfl, rfl, rfl⟩ := hrel
    rcases (show k = 0 ∨ k = 1 ∨ k = 2 by omega) with rfl | rfl | rfl
    · have e0 : partC x y 0 = 0 := rfl
      have h1 := HX.out
      have hd : decide (4611686018427387904 < cnt x) = false := decide_eq_false (by omega)
      rw [e0]
      go_wp2_with fail
      refine (C.out _ _).mono ?_
      rintro e w1 ⟨rfl, rfl⟩
      go_wp2_with fail
      go_roundw
      case rel => exact ⟨1, by omega, by go_num, by simp [partC], by first | rfl | trivial⟩
      case measure => simp [intOf]
    · have e0 : partC x y 1 = cnt x := rfl
      have h1 := HX.out
      have h2 := HY.out
      rw [e0]
      have hw1 : IntKind.i64.wrap (4611686018427387904 - cnt x) = 4611686018427387904 - cnt x := IntWalk.i64_in _ (by omega)
      by_cases hc : 4611686018427387904 - cnt x < cnt y
      · have e2 : addC x y = 4611686018427387904 := by unfold addC; rw [if_pos (by omega)]
        have hd : decide (4611686018427387904 - cnt x < cnt y) = true := decide_eq_true hc
        go_wp2_with fail
        refine (C.out _ _).mono ?_
        rintro e w1 ⟨rfl, rfl⟩
        go_wp2_with fail
        go_roundw
        case rel => exact ⟨2, by omega, by go_num, by simp [partC, e2], by first | rfl | trivial⟩
        case measure => simp [intOf]
      · have e2 : addC x y = cnt x + cnt y := by unfold addC; rw [if_neg (by omega)]
        have hd : decide (4611686018427387904 - cnt x < cnt y) = false := decide_eq_false hc
        have hw2 : IntKind.i64.wrap (cnt x + cnt y) = cnt x + cnt y := IntWalk.i64_in _ (by omega)
        go_wp2_with fail
        refine (C.out _ _).mono ?_
        rintro e w1 ⟨rfl, rfl⟩
        go_wp2_with fail
        go_roundw
        case rel => exact ⟨2, by omega, by go_num, by simp [partC, e2], by first | rfl | trivial⟩
        case measure => simp [intOf]
    · have e0 : partC x y 2 = addC x y := rfl
      rw [e0]
      go_wp2
      go_ret
      exact ⟨rfl, rfl⟩
end Go.Proofs.YtpanmfdbdgecaaaGreat.C

namespace Go.Proofs.YtpanmfdbdgecaaaGreat.C
open Go.RowKit
set_option linter.unusedVariables false
/-- A row that is made: so many of an element's cells of noughts. -/
theorem make_row {t e : TypeId} (z : List Value) (m bytes : Nat) (hu : Tryz.prog.underlying t = some (.slice e)) (hz : z.length = m) (hm : 0 < m) (hb : bytes ≤ 4096)
    (hinfo : (Tryz.prog.info? e).map (fun i => (i.zero, i.size, i.bytes)) = some (some (.agg z.toArray), m, bytes)) (n : Nat) (k : Nat) (hk : k ≤ n) (hn : n ≤ 65536) (W : World) :
    (Instr.makeSlice t (.int .i64 (k : Int)) (.int .i64 (n : Int))).run Tryz.prog W = .ok (.slice (some ⟨W.heap.size, 0, none⟩) k n) (W.alloc (.cells (List.replicate n z).flatten.toArray e)) := by
  obtain ⟨i0, hi, hz0, hz1, hz2⟩ := info_parts hinfo
  have hbn : (bytes : Int) * (n : Int) ≤ 281474976710656 := by
    have h1 := Nat.mul_le_mul hb hn
    have e2 : (bytes : Int) * (n : Int) = ((bytes * n : Nat) : Int) := by simp
    rw [e2]
    omega
  have hr := run_make (P := Tryz.prog) W t e i0 (.agg z.toArray) hu hi hz0 .i64 .i64 k n (by omega) (by omega) (by rw [hz2]; exact hbn) (by omega)
  simp only [Int.toNat_natCast] at hr
  rw [hr, hz1]
  have e : madeCells (Value.agg z.toArray).cells (n * m) = (List.replicate n z).flatten.toArray := by
    apply Array.toList_inj.1
    exact PS.made_rep _ m hz hm n
  rw [e]
/-- A bin: bytes, when it was changed, a probability. -/
structure Bin where
  bytes : Int
  changed : Int
  p : Int
def binC (x : Bin) : List Value := [.int .i64 x.bytes, .int .i64 x.changed, .int .i64 x.p]
structure BlAt (w : World) (pb b : Nat) (l : List Bin) (lv bn : Nat) (tg hd up dn : Int) : Prop where
  ptr : w.heap[pb]? = some (.cells #[.slice (some ⟨b, 0, none⟩) l.length l.length, .int .i64 (lv : Nat), .int .i64 (bn : Nat), .int .i64 tg, .int .i64 hd, .int .i64 up, .int .i64 dn] 262 (0, 0))
  row : w.heap[b]? = some (.cells (l.map binC).flatten.toArray 288 (0, 0))
  len : l.length = lv * bn
theorem blue_tuned (tg up dn : Int) (w : World) (h0 : 0 ≤ tg) (h1 : tg ≤ 1073741824) (h2 : 0 ≤ up) (h3 : up ≤ 65536) (h4 : 0 ≤ dn) (h5 : dn ≤ 65536) :
    Calls Tryz.prog 122 #[.int .i64 tg, .int .i64 up, .int .i64 dn] w fun e w' => e = .returned (.bool true) ∧ w' = w := by
  go_enter Tryz.func122, Tryz.ntmps122
  go_wp2
  go_ret
  exact ⟨rfl, rfl⟩
theorem blue_new (lv bn : Nat) (tg hd up dn : Int) (w : World) (a0 : 1 ≤ lv) (a1 : lv ≤ 4) (b0 : 1 ≤ bn) (b1 : bn ≤ 64) (h0 : 0 ≤ tg) (h1 : tg ≤ 1073741824) (h2 : 0 ≤ up) (h3 : up ≤ 65536) (h4 : 0 ≤ dn) (h5 : dn ≤ 65536) (h6 : 0 ≤ hd) (h7 : hd ≤ 4611686018427387903) :
    Calls Tryz.prog 63 #[.int .i64 (lv : Nat), .int .i64 (bn : Nat), .int .i64 tg, .int .i64 hd, .int .i64 up, .int .i64 dn] w fun e w' => e = .returned (.tuple #[.pointer (some ⟨w.heap.size + 1, 0, none⟩), .int .i64 0]) ∧ BlAt w' (w.heap.size + 1) w.heap.size (List.replicate (lv * bn) ⟨0, 0, 0⟩) lv bn tg hd up dn ∧ Below w.heap.size w w' := by
  have C := Lib.hid (fun w' => blue_tuned tg up dn w' h0 h1 h2 h3 h4 h5)
  have hp : lv * bn ≤ 256 := Nat.le_trans (Nat.mul_le_mul a1 b1) (by omega)
  have hmk := make_row (binC ⟨0, 0, 0⟩) 3 24 Tryz.underlying260 rfl (by omega) (by omega) (by kernel_rfl) (lv * bn) (lv * bn) (Nat.le_refl _) (by omega)
  obtain ⟨m, hm⟩ : ∃ m, lv * bn = m := ⟨_, rfl⟩
  have hmI : (lv : Int) * (bn : Int) = (m : Int) := by rw [← hm]; simp
  have hwm : IntKind.i64.wrap (m : Int) = (m : Int) := IntWalk.i64_in _ (by omega)
  rw [hm] at hmk hp ⊢
  have HM := Lib.hid hm
  clear hm h0 h1 h2 h3 h4 h5
  go_enter Tryz.func63, Tryz.ntmps63
  go_wp2_with fail
  refine (C.out _).mono ?_
  rintro e w1 ⟨rfl, rfl⟩
  go_wp2
  go_ret2
  refine ⟨rfl, ⟨?_, ?_, ?_⟩, ((Below.refl _ _).alloc (Nat.le_refl _) _).alloc (by simp) _⟩
  · rw [List.length_replicate]
    have := Go.heap_alloc_new (w1.alloc (.cells (List.replicate m (binC ⟨0, 0, 0⟩)).flatten.toArray 288)) (.cells #[.slice (some ⟨w1.heap.size, 0, none⟩) m m, .int .i64 (lv : Nat), .int .i64 (bn : Nat), .int .i64 tg, .int .i64 hd, .int .i64 up, .int .i64 dn] 262)
    simpa using this
  · rw [Go.heap_alloc_old _ _ (by simp), List.map_replicate]
    exact Go.heap_alloc_new _ _
  · rw [List.length_replicate, HM.out]
/-- A slot of a sketch: a prefix's 8 cells, what it has, the error. -/
structure Slt where
  p : Array Value
  count : Int
  err : Int
def sltC (x : Slt) : List Value := x.p.toList ++ [.int .i64 x.count, .int .i64 x.err]
/-- The prefix of noughts. -/
def QZ : Array Value := #[.bool false, .int .u8 0, .int .u8 0, .int .u8 0, .int .u8 0, .int .u8 0, .int .u8 0, .int .u8 0]
/-- A sketch in memory: its slots lie ahead in a row of room. -/
structure SkAt (w : World) (pb b : Nat) (l : List Slt) (room : Nat) (total : Int) : Prop where
  ptr : w.heap[pb]? = some (.cells #[.slice (some ⟨b, 0, none⟩) l.length room, .int .i64 total] 269 (0, 0))
  row : ∃ C : Array Value, w.heap[b]? = some (.cells C 195 (0, 0)) ∧ C.size = room * 10 ∧ ∀ (j : Nat) (v : Value), (l.map sltC).flatten[j]? = some v → C[j]? = some v
  len : l.length ≤ room
  pre : ∀ x ∈ l, x.p.size = 8 ∧ x.p.all (·.oneCell') = true
theorem sketch_new (n : Nat) (w : World) (a0 : 1 ≤ n) (a1 : n ≤ 64) :
    Calls Tryz.prog 123 #[.int .i64 (n : Nat)] w fun e w' => e = .returned (.tuple #[.pointer (some ⟨w.heap.size + 1, 0, none⟩), .int .i64 0]) ∧ SkAt w' (w.heap.size + 1) w.heap.size [] n 0 ∧ Below w.heap.size w w' := by
  have hmk : ∀ W : World, (Instr.makeSlice 267 (.int .i64 0) (.int .i64 (n : Int))).run Tryz.prog W = .ok (.slice (some ⟨W.heap.size, 0, none⟩) 0 n) (W.alloc (.cells (List.replicate n (sltC ⟨QZ, 0, 0⟩)).flatten.toArray 195)) := make_row (sltC ⟨QZ, 0, 0⟩) 10 24 Tryz.underlying267 rfl (by omega) (by omega) (by kernel_rfl) n 0 (by omega) (by omega)
  have hsz : (List.replicate n (sltC ⟨QZ, 0, 0⟩)).flatten.toArray.size = n * 10 := by
    rw [List.size_toArray, flat_length 10 _ (fun c hc => by obtain ⟨_, rfl⟩ := List.mem_replicate.1 hc; rfl), List.length_replicate]
  generalize (List.replicate n (sltC ⟨QZ, 0, 0⟩)).flatten.toArray = C0 at *
  have HSZ := Lib.hid hsz
  clear hsz
  go_enter Tryz.func123, Tryz.ntmps123
  go_wp2
  go_ret2
  refine ⟨rfl, ⟨?_, ⟨C0, ?_, HSZ.out, fun j v h => by simp at h⟩, by simp, fun x h => by cases h⟩, ((Below.refl _ _).alloc (Nat.le_refl _) _).alloc (by simp) _⟩
  · have := Go.heap_alloc_new (w.alloc (.cells C0 195)) (.cells #[.slice (some ⟨w.heap.size, 0, none⟩) 0 n, .int .i64 0] 269)
    simpa using this
  · rw [Go.heap_alloc_old _ _ (by simp)]
    exact Go.heap_alloc_new _ _
theorem window_may (n : Int) (w : World) (h0 : 1 ≤ n) (h1 : n ≤ 4611686018427387903) : Calls Tryz.prog 124 #[.int .i64 n] w fun e w' => e = .returned (.bool true) ∧ w' = w := by
  go_enter Tryz.func124, Tryz.ntmps124
  go_wp2
  go_ret
  exact ⟨rfl, rfl⟩
/-- A window in memory. -/
structure WiAt (w : World) (wb pb b : Nat) (l : List Slt) (room : Nat) (total ns thr num : Int) : Prop where
  ptr : w.heap[wb]? = some (.cells #[.pointer (some ⟨pb, 0, none⟩), .int .i64 ns, .int .i64 thr, .int .i64 num] 193 (0, 0))
  sk : SkAt w pb b l room total
theorem SkAt.below {w w' : World} {pb b : Nat} {l : List Slt} {room : Nat} {total : Int} (h : SkAt w pb b l room total) (p : Below w.heap.size w w') : SkAt w' pb b l room total := by
  obtain ⟨C, h1, h2, h3⟩ := h.row
  exact ⟨keep_block p h.ptr, ⟨C, keep_block p h1, h2, h3⟩, h.len, h.pre⟩
theorem WiAt.below {w w' : World} {wb pb b : Nat} {l : List Slt} {room : Nat} {total ns thr num : Int} (h : WiAt w wb pb b l room total ns thr num) (p : Below w.heap.size w w') : WiAt w' wb pb b l room total ns thr num := ⟨keep_block p h.ptr, h.sk.below p⟩
theorem BlAt.below {w w' : World} {pb b : Nat} {l : List Bin} {lv bn : Nat} {tg hd up dn : Int} (h : BlAt w pb b l lv bn tg hd up dn) (p : Below w.heap.size w w') : BlAt w' pb b l lv bn tg hd up dn := ⟨keep_block p h.ptr, keep_block p h.row, h.len⟩
theorem window_new (n : Nat) (ns thr : Int) (w : World) (a0 : 1 ≤ n) (a1 : n ≤ 64) (h0 : 1 ≤ ns) (h1 : ns ≤ 4611686018427387903) (h2 : 1 ≤ thr) (h3 : thr ≤ 4611686018427387903) :
    Calls Tryz.prog 64 #[.int .i64 (n : Nat), .int .i64 ns, .int .i64 thr] w fun e w' => ∃ wb pb b, e = .returned (.tuple #[.pointer (some ⟨wb, 0, none⟩), .int .i64 0]) ∧ (w.heap.size ≤ wb ∧ w.heap.size ≤ pb ∧ w.heap.size ≤ b) ∧ WiAt w' wb pb b [] n 0 ns thr 0 ∧ Below w.heap.size w w' := by
  have C1 := Lib.hid (sketch_new n w a0 a1)
  have C2 := Lib.hid (fun w' => window_may ns w' h0 h1)
  have C3 := Lib.hid (fun w' => window_may thr w' h2 h3)
  go_enter Tryz.func64, Tryz.ntmps64
  go_wp2_with fail
  refine C1.out.mono ?_
  rintro e w1 ⟨rfl, hS, hB⟩
  have HS := Lib.hid hS
  have HB := Lib.hid hB
  clear C1 hS hB
  go_wp2_with fail
  refine (C2.out _).mono ?_
  rintro e w2 ⟨rfl, rfl⟩
  go_wp2_with fail
  refine (C3.out _).mono ?_
  rintro e w3 ⟨rfl, rfl⟩
  go_wp2
  go_ret2
  have hb := HB.out
  have p1 : Below w3.heap.size w3 (w3.alloc (.cells #[.pointer (some ⟨w.heap.size + 1, 0, none⟩), .int .i64 ns, .int .i64 thr, .int .i64 0] 193)) := (Below.refl _ _).alloc (Nat.le_refl _) _
  exact ⟨_, _, _, rfl, ⟨hb.size, by omega, Nat.le_refl _⟩, ⟨Go.heap_alloc_new _ _, HS.out.below p1⟩, hb.trans (p1.mono hb.size)⟩
/-- Tokens in memory. -/
def TkAt (w : World) (b : Nat) (rate most level now : Int) : Prop := w.heap[b]? = some (.cells #[.int .i64 rate, .int .i64 most, .int .i64 level, .int .i64 now] 279 (0, 0))
theorem token_new (rate burst : Int) (w : World) (h0 : 0 ≤ rate) (h1 : rate ≤ 1073741824) (h2 : 1 ≤ burst) (h3 : burst ≤ 1073741824) :
    Calls Tryz.prog 70 #[.int .i64 rate, .int .i64 burst] w fun e w' => e = .returned (.tuple #[.pointer (some ⟨w.heap.size, 0, none⟩), .int .i64 0]) ∧ TkAt w' w.heap.size rate (burst * 1048576) (burst * 1048576) 0 ∧ Below w.heap.size w w' ∧ w'.heap.size = w.heap.size + 1 := by
  have hw : IntKind.i64.wrap (burst * 1048576) = burst * 1048576 := IntWalk.i64_in _ (by omega)
  go_enter Tryz.func70, Tryz.ntmps70
  go_wp2
  go_ret2
  exact ⟨rfl, Go.heap_alloc_new _ _, (Below.refl _ _).alloc (Nat.le_refl _) _, by simp⟩
/-- A place of the box's table: free, taken or left; a prefix; up to when; where the tokens lie. -/
structure Plc where
  state : Int
  p : Array Value
  til : Int
  tok : Option Nat
def tokV (t : Option Nat) : Value := .pointer (t.map fun b => ⟨b, 0, none⟩)
def plcC (x : Plc) : List Value := [.int .i64 x.state] ++ x.p.toList ++ [.int .i64 x.til, tokV x.tok]
/-- A table in memory. -/
structure TbAt (w : World) (pb b : Nat) (l : List Plc) (room : Nat) (n : Int) : Prop where
  ptr : w.heap[pb]? = some (.cells #[.slice (some ⟨b, 0, none⟩) l.length l.length, .int .i64 (room : Nat), .int .i64 n] 277 (0, 0))
  row : w.heap[b]? = some (.cells (l.map plcC).flatten.toArray 274 (0, 0))
  len : l.length = 2 * room
  pre : ∀ x ∈ l, x.p.size = 8 ∧ x.p.all (·.oneCell') = true
def plc0 : Plc := ⟨0, QZ, 0, none⟩
theorem TbAt.below {w w' : World} {pb b : Nat} {l : List Plc} {room : Nat} {n : Int} (h : TbAt w pb b l room n) (p : Below w.heap.size w w') : TbAt w' pb b l room n := ⟨keep_block p h.ptr, keep_block p h.row, h.len, h.pre⟩
theorem table_new (n : Nat) (w : World) (a0 : 1 ≤ n) (a1 : n ≤ 64) :
    Calls Tryz.prog 125 #[.int .i64 (n : Nat)] w fun e w' => e = .returned (.tuple #[.pointer (some ⟨w.heap.size + 1, 0, none⟩), .int .i64 0]) ∧ TbAt w' (w.heap.size + 1) w.heap.size (List.replicate (2 * n) plc0) n 0 ∧ Below w.heap.size w w' := by
  have hmk := make_row (plcC plc0) 11 32 Tryz.underlying275 rfl (by omega) (by omega) (by kernel_rfl) (2 * n) (2 * n) (Nat.le_refl _) (by omega)
  obtain ⟨m, hm⟩ : ∃ m, 2 * n = m := ⟨_, rfl⟩
  have hmI : 2 * (n : Int) = (m : Int) := by omega
  have hwm : IntKind.i64.wrap (m : Int) = (m : Int) := IntWalk.i64_in _ (by omega)
  rw [hm] at hmk ⊢
  have HM := Lib.hid hm
  clear hm
  go_enter Tryz.func125, Tryz.ntmps125
  go_wp2
  go_ret2
  refine ⟨rfl, ⟨?_, ?_, ?_, fun x hx => by obtain ⟨_, rfl⟩ := List.mem_replicate.1 hx; exact ⟨rfl, by kernel_rfl⟩⟩, ((Below.refl _ _).alloc (Nat.le_refl _) _).alloc (by simp) _⟩
  · rw [List.length_replicate]
    have := Go.heap_alloc_new (w.alloc (.cells (List.replicate m (plcC plc0)).flatten.toArray 274)) (.cells #[.slice (some ⟨w.heap.size, 0, none⟩) m m, .int .i64 (n : Nat), .int .i64 0] 277)
    simpa using this
  · rw [Go.heap_alloc_old _ _ (by simp), List.map_replicate]
    exact Go.heap_alloc_new _ _
  · rw [List.length_replicate, HM.out]
/-- A box in memory. -/
structure BxAt (w : World) (xb pb b : Nat) (l : List Plc) (room : Nat) (n term rate burst : Int) : Prop where
  ptr : w.heap[xb]? = some (.cells #[.pointer (some ⟨pb, 0, none⟩), .int .i64 term, .int .i64 rate, .int .i64 burst] 203 (0, 0))
  tb : TbAt w pb b l room n
theorem BxAt.below {w w' : World} {xb pb b : Nat} {l : List Plc} {room : Nat} {n term rate burst : Int} (h : BxAt w xb pb b l room n term rate burst) (p : Below w.heap.size w w') : BxAt w' xb pb b l room n term rate burst := ⟨keep_block p h.ptr, h.tb.below p⟩
theorem box_new (n : Nat) (term rate burst : Int) (w : World) (a0 : 1 ≤ n) (a1 : n ≤ 64) (t0 : 1 ≤ term) (t1 : term ≤ 4611686018427387903) (h0 : 0 ≤ rate) (h1 : rate ≤ 1073741824) (h2 : 1 ≤ burst) (h3 : burst ≤ 1073741824) :
    Calls Tryz.prog 65 #[.int .i64 (n : Nat), .int .i64 term, .int .i64 rate, .int .i64 burst] w fun e w' => ∃ xb pb b, e = .returned (.tuple #[.pointer (some ⟨xb, 0, none⟩), .int .i64 0]) ∧ (w.heap.size ≤ xb ∧ w.heap.size ≤ pb ∧ w.heap.size ≤ b) ∧ BxAt w' xb pb b (List.replicate (2 * n) plc0) n 0 term rate burst ∧ Below w.heap.size w w' := by
  have C1 := Lib.hid (table_new n w a0 a1)
  have C2 := Lib.hid (fun w' => token_new rate burst w' h0 h1 h2 h3)
  go_enter Tryz.func65, Tryz.ntmps65
  go_wp2_with fail
  refine C1.out.mono ?_
  rintro e w1 ⟨rfl, hS, hB⟩
  have HS := Lib.hid hS
  have HB := Lib.hid hB
  clear C1 hS hB
  go_wp2_with fail
  refine (C2.out _).mono ?_
  rintro e w2 ⟨rfl, hT, hB2, hs2⟩
  have HS2 := Lib.hid (HS.out.below hB2)
  have HB2 := Lib.hid (HB.out.trans (hB2.mono HB.out.size))
  clear HS HB hB2 hT C2 hs2
  go_wp2
  go_ret2
  have hb := HB2.out
  have p1 : Below w2.heap.size w2 (w2.alloc (.cells #[.pointer (some ⟨w.heap.size + 1, 0, none⟩), .int .i64 term, .int .i64 rate, .int .i64 burst] 203)) := (Below.refl _ _).alloc (Nat.le_refl _) _
  exact ⟨_, _, _, rfl, ⟨hb.size, by omega, Nat.le_refl _⟩, ⟨Go.heap_alloc_new _ _, HS2.out.below p1⟩, hb.trans (p1.mono hb.size)⟩
/-- A pacer in memory. -/
def PaAt (w : World) (b : Nat) (ns next : Int) : Prop := w.heap[b]? = some (.cells #[.int .i64 ns, .int .i64 next] 190 (0, 0))
theorem pace_new (ns : Int) (w : World) (h0 : 1 ≤ ns) (h1 : ns ≤ 1000000) :
    Calls Tryz.prog 36 #[.int .i64 ns] w fun e w' => e = .returned (.tuple #[.pointer (some ⟨w.heap.size, 0, none⟩), .int .i64 0]) ∧ PaAt w' w.heap.size ns 0 ∧ Below w.heap.size w w' := by
  go_enter Tryz.func36, Tryz.ntmps36
  go_wp2
  go_ret2
  exact ⟨rfl, Go.heap_alloc_new _ _, (Below.refl _ _).alloc (Nat.le_refl _) _⟩
end Go.Proofs.YtpanmfdbdgecaaaGreat.C

namespace Go.Proofs.YtpanmfdbdgecaaaGreat.C
open Go.RowKit
set_option linter.unusedVariables false
/-- A config's cells. -/
structure Cfg (cv : Array Value) (c : Nat → Int) : Prop where
  size : cv.size = 20
  at_ : ∀ i, i < 20 → cv[i]? = some (.int .i64 (c i))
/-- The configs that may be. -/
structure RightC (c : Nat → Int) : Prop where
  buckets : 1 ≤ c 0 ∧ c 0 ≤ 64
  packets : 1 ≤ c 1 ∧ c 1 ≤ 4096
  levels : 1 ≤ c 2 ∧ c 2 ≤ 4
  bins : 1 ≤ c 3 ∧ c 3 ≤ 64
  up : 0 ≤ c 4 ∧ c 4 ≤ 65536
  down : 0 ≤ c 5 ∧ c 5 ≤ 65536
  slots : 1 ≤ c 6 ∧ c 6 ≤ 64
  room : 1 ≤ c 7 ∧ c 7 ≤ 64
  quantum : 9216 ≤ c 8 ∧ c 8 ≤ 1073741824
  reserve : 0 ≤ c 9 ∧ c 9 ≤ 1073741824
  shared : 0 ≤ c 10 ∧ c 10 ≤ 1073741824
  ns : 1 ≤ c 11 ∧ c 11 ≤ 1000000
  choke : 0 ≤ c 12 ∧ c 12 ≤ 1073741824
  target : 0 ≤ c 13 ∧ c 13 ≤ 1073741824
  hold : 0 ≤ c 14 ∧ c 14 ≤ 4611686018427387903
  window : 1 ≤ c 15 ∧ c 15 ≤ 4611686018427387903
  thr : 1 ≤ c 16 ∧ c 16 ≤ 4611686018427387903
  term : 1 ≤ c 17 ∧ c 17 ≤ 4611686018427387903
  rate : 0 ≤ c 18 ∧ c 18 ≤ 1073741824
  burst : 1 ≤ c 19 ∧ c 19 ≤ 1073741824
theorem Cfg.cell {cv : Array Value} {c : Nat → Int} {w : World} {b : Nat} {t : TypeId} (h : Cfg cv c) (hb : w.heap[b]? = some (.cells cv t (0, 0))) (i : Nat) (hi : i < 20) : w.cell? ⟨b, i, none⟩ = some (.int .i64 (c i)) := by
  rw [cell_of_row _ _ _ _ _ _ hb]
  exact h.at_ i hi
theorem cfg_size : (Tryz.prog.info? 26).map (·.size) = some 20 := by kernel_rfl
theorem cfg_desc : ∃ d, Tryz.prog.underlying 26 = some d ∧ d.isRow = true := ⟨_, Tryz.underlying26, rfl⟩
theorem cfg_load {w : World} {b : Nat} {cv : Array Value} {c : Nat → Int} {t : TypeId} (h : w.heap[b]? = some (.cells cv t (0, 0))) (hx : Cfg cv c) : (Instr.loadAt 26 (.pointer (some ⟨b, 0, none⟩))).run Tryz.prog w = .ok (.agg cv) w := by
  obtain ⟨d, hd1, hd2⟩ := cfg_desc
  have := run_loadAt_mid (P := Tryz.prog) w b 0 26 cv.toList d (range_of_block h fun j v hv => by simpa using hv) hd1 hd2 (by rw [cfg_size, Array.length_toList, hx.size])
  simpa using this
theorem config_in (n a b : Int) (w : World) (h0 : a ≤ n) (h1 : n ≤ b) : Calls Tryz.prog 118 #[.int .i64 n, .int .i64 a, .int .i64 b] w fun e w' => e = .returned (.bool true) ∧ w' = w := by
  go_enter Tryz.func118, Tryz.ntmps118
  go_wp2
  go_ret
  exact ⟨rfl, rfl⟩
set_option maxRecDepth 100000 in
theorem config_parts (cv : Array Value) (c : Nat → Int) (w : World) (hv : Cfg cv c) (hr : RightC c) :
    Calls Tryz.prog 119 #[.agg cv] w fun e w' => e = .returned (.bool true) ∧ Below w.heap.size w w' := by
  obtain ⟨lv, hlv⟩ := Int.eq_ofNat_of_zero_le (show 0 ≤ c 2 by have := hr.levels; omega)
  obtain ⟨bn, hbn⟩ := Int.eq_ofNat_of_zero_le (show 0 ≤ c 3 by have := hr.bins; omega)
  obtain ⟨sl, hsl⟩ := Int.eq_ofNat_of_zero_le (show 0 ≤ c 6 by have := hr.slots; omega)
  obtain ⟨rm, hrm⟩ := Int.eq_ofNat_of_zero_le (show 0 ≤ c 7 by have := hr.room; omega)
  have C1 := Lib.hid (fun w' => blue_new lv bn (c 13) (c 14) (c 4) (c 5) w' (by have := hr.levels; omega) (by have := hr.levels; omega) (by have := hr.bins; omega) (by have := hr.bins; omega) hr.target.1 hr.target.2 hr.up.1 hr.up.2 hr.down.1 hr.down.2 hr.hold.1 hr.hold.2)
  have C2 := Lib.hid (fun w' => window_new sl (c 15) (c 16) w' (by have := hr.slots; omega) (by have := hr.slots; omega) hr.window.1 hr.window.2 hr.thr.1 hr.thr.2)
  have C3 := Lib.hid (fun w' => box_new rm (c 17) (c 18) (c 19) w' (by have := hr.room; omega) (by have := hr.room; omega) hr.term.1 hr.term.2 hr.rate.1 hr.rate.2 hr.burst.1 hr.burst.2)
  have HC : Hid (∀ w' : World, w'.heap[w.heap.size]? = some (.cells cv 26 (0, 0)) → w'.cell? ⟨w.heap.size, 2, none⟩ = some (.int .i64 (lv : Nat)) ∧ w'.cell? ⟨w.heap.size, 3, none⟩ = some (.int .i64 (bn : Nat)) ∧ w'.cell? ⟨w.heap.size, 13, none⟩ = some (.int .i64 (c 13)) ∧ w'.cell? ⟨w.heap.size, 14, none⟩ = some (.int .i64 (c 14)) ∧ w'.cell? ⟨w.heap.size, 4, none⟩ = some (.int .i64 (c 4)) ∧ w'.cell? ⟨w.heap.size, 5, none⟩ = some (.int .i64 (c 5))) := Lib.hid fun w' hb => by
    rw [← hlv, ← hbn]
    exact ⟨hv.cell hb 2 (by decide), hv.cell hb 3 (by decide), hv.cell hb 13 (by decide), hv.cell hb 14 (by decide), hv.cell hb 4 (by decide), hv.cell hb 5 (by decide)⟩
  have HD : Hid (∀ w' : World, w'.heap[w.heap.size]? = some (.cells cv 26 (0, 0)) → w'.cell? ⟨w.heap.size, 6, none⟩ = some (.int .i64 (sl : Nat)) ∧ w'.cell? ⟨w.heap.size, 15, none⟩ = some (.int .i64 (c 15)) ∧ w'.cell? ⟨w.heap.size, 16, none⟩ = some (.int .i64 (c 16)) ∧ w'.cell? ⟨w.heap.size, 7, none⟩ = some (.int .i64 (rm : Nat)) ∧ w'.cell? ⟨w.heap.size, 17, none⟩ = some (.int .i64 (c 17)) ∧ w'.cell? ⟨w.heap.size, 18, none⟩ = some (.int .i64 (c 18)) ∧ w'.cell? ⟨w.heap.size, 19, none⟩ = some (.int .i64 (c 19))) := Lib.hid fun w' hb => by
    rw [← hsl, ← hrm]
    exact ⟨hv.cell hb 6 (by decide), hv.cell hb 15 (by decide), hv.cell hb 16 (by decide), hv.cell hb 7 (by decide), hv.cell hb 17 (by decide), hv.cell hb 18 (by decide), hv.cell hb 19 (by decide)⟩
  clear hlv hbn hsl hrm hv hr
  go_enter Tryz.func119, Tryz.ntmps119
  go_upto_region 1 with ((with_reducible refine arm_box 1 0 26 cv ?_ ?_); rfl; intro w1 HB HX HS)
  obtain ⟨c2, c3, c13, c14, c4, c5⟩ := HC.out _ HX.out
  go_wp2_with fail
  refine (C1.out _).mono ?_
  rintro e w2 ⟨rfl, _, hB2⟩
  obtain ⟨d6, d15, d16, d7, d17, d18, d19⟩ := HD.out _ (keep_block hB2 HX.out)
  have HX2 := Lib.hid (keep_block hB2 HX.out)
  have HB2 := Lib.hid (HB.out.trans (hB2.mono HB.out.size))
  clear hB2 HB HX HS c2 c3 c13 c14 c4 c5 C1 HC
  go_wp2_with fail
  refine (C2.out _).mono ?_
  rintro e w3 ⟨_, _, _, rfl, _, _, hB3⟩
  clear d6 d15 d16 d7 d17 d18 d19
  obtain ⟨d6, d15, d16, d7, d17, d18, d19⟩ := HD.out _ (keep_block hB3 HX2.out)
  have HB3 := Lib.hid (HB2.out.trans (hB3.mono HB2.out.size))
  clear hB3 HB2 HX2
  go_wp2_with fail
  refine (C3.out _).mono ?_
  rintro e w4 ⟨_, _, _, rfl, _, _, hB4⟩
  have HB4 := Lib.hid (HB3.out.trans (hB4.mono HB3.out.size))
  clear hB4 HB3 d6 d15 d16 d7 d17 d18 d19
  go_wp2
  go_ret
  exact ⟨rfl, HB4.out⟩
set_option maxRecDepth 100000 in
theorem config_right (cv : Array Value) (c : Nat → Int) (w : World) (hv : Cfg cv c) (hr : RightC c) :
    Calls Tryz.prog 58 #[.agg cv] w fun e w' => e = .returned (.bool true) ∧ Below w.heap.size w w' := by
  have CP := Lib.hid (fun w' => config_parts cv c w' hv hr)
  have C0 := Lib.hid (fun w' => config_in (c 0) 1 64 w' hr.buckets.1 hr.buckets.2)
  have C1 := Lib.hid (fun w' => config_in (c 1) 1 4096 w' hr.packets.1 hr.packets.2)
  have C8 := Lib.hid (fun w' => config_in (c 8) 9216 1073741824 w' hr.quantum.1 hr.quantum.2)
  have C11 := Lib.hid (fun w' => config_in (c 11) 1 1000000 w' hr.ns.1 hr.ns.2)
  have C9 := Lib.hid (fun w' => config_in (c 9) 0 1073741824 w' hr.reserve.1 hr.reserve.2)
  have C10 := Lib.hid (fun w' => config_in (c 10) 0 1073741824 w' hr.shared.1 hr.shared.2)
  have C12 := Lib.hid (fun w' => config_in (c 12) 0 1073741824 w' hr.choke.1 hr.choke.2)
  have HV := Lib.hid hv
  clear hv hr
  go_enter Tryz.func58, Tryz.ntmps58
  go_upto_region 1 with ((with_reducible refine arm_box 1 0 26 cv ?_ ?_); rfl; intro w1 HB HX HS)
  have c0 := HV.out.cell HX.out 0 (by decide)
  have c1 := HV.out.cell HX.out 1 (by decide)
  have c8 := HV.out.cell HX.out 8 (by decide)
  have c11 := HV.out.cell HX.out 11 (by decide)
  have c9 := HV.out.cell HX.out 9 (by decide)
  have c10 := HV.out.cell HX.out 10 (by decide)
  have c12 := HV.out.cell HX.out 12 (by decide)
  have hld := cfg_load HX.out HV.out
  go_wp2_with fail
  refine (C0.out _).mono ?_
  rintro e w2 ⟨rfl, rfl⟩
  go_wp2_with fail
  refine (C1.out _).mono ?_
  rintro e w3 ⟨rfl, rfl⟩
  go_wp2_with fail
  refine (C8.out _).mono ?_
  rintro e w4 ⟨rfl, rfl⟩
  go_wp2_with fail
  refine (C11.out _).mono ?_
  rintro e w5 ⟨rfl, rfl⟩
  go_wp2_with fail
  refine (C9.out _).mono ?_
  rintro e w6 ⟨rfl, rfl⟩
  go_wp2_with fail
  refine (C10.out _).mono ?_
  rintro e w7 ⟨rfl, rfl⟩
  go_wp2_with fail
  refine (C12.out _).mono ?_
  rintro e w8 ⟨rfl, rfl⟩
  go_wp2_with ((with_reducible refine arm_loadg 39 1 26 (.pointer (some ⟨w.heap.size, 0, none⟩)) (.agg cv) hld ?_ ?_ ?_); rfl; rfl)
  refine (CP.out _).mono ?_
  rintro e w9 ⟨rfl, hB9⟩
  have HB9 := Lib.hid (HB.out.trans (hB9.mono HB.out.size))
  clear hB9 c0 c1 c8 c11 c9 c10 c12 hld
  go_wp2
  go_ret
  exact ⟨rfl, HB9.out⟩
end Go.Proofs.YtpanmfdbdgecaaaGreat.C
