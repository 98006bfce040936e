/- The police: boxed. · The police: Arrive of somebody who is put into the box. · The police: what its block has while it is made; quota's New. · The police: New. · The engine in memory; New of sched and engine. · The engine's clock; what goes ahead where nothing is moved. · The engine: what it counts, Clock, Boxed, ahead. -/
import Derived.Test.YtpanmfdbdgecaaaGreatY8
namespace Go.Proofs.YtpanmfdbdgecaaaGreat.C
open Go.RowKit
set_option linter.unusedVariables false
theorem Tur.trans2 {f g : Nat → Nat} {ks : List Nat} {a b c : World} (p : Tur f ks a b) (q : Tur g ks b c) (h : ∀ k, k < a.heap.size → g k = f k) : Tur f ks a c :=
  ⟨q.os.trans p.os, q.tape.trans p.tape, q.output.trans p.output, Nat.le_trans p.size q.size, fun k hk hn => (q.block k (Nat.lt_of_lt_of_le hk p.size) (by rw [h k hk]; exact hn)).trans (p.block k hk hn)⟩
/-- A packet of a prefix, so long. -/
structure PkP (x : Array Value) (n : Int) (p : Array Value) : Prop where
  l : PkL x n
  pre : x.extract 37 (37 + 8) = p
theorem PkP.load {x p : Array Value} {n : Int} (h : PkP x n p) (hp : p.size = 8) {w : World} {b : Nat} {t : TypeId} (hb : w.heap[b]? = some (.cells x t (0, 0))) : (Instr.loadAt 65 (.pointer (some ⟨b, 37, none⟩))).run Tryz.prog w = .ok (.agg p) w :=
  box_load_mid (t := 65) hb (of_extract h.pre) _ Tryz.underlying65 rfl (by rw [hp]; kernel_rfl)
section
variable {w : World} {A : PAd} {F : PCf} {S S1 S2 : PSt}
end
end Go.Proofs.YtpanmfdbdgecaaaGreat.C

namespace Go.Proofs.YtpanmfdbdgecaaaGreat.C
open Go.RowKit
set_option linter.unusedVariables false
theorem calls_hide {P : Program} {f : Nat} {args : Array Value} {w : World} {R : Ending → World → Prop} (h : ∀ Q : Ending → World → Prop, Hid (∀ e w', R e w' → Q e w') → Calls P f args w Q) : Calls P f args w R := h R (Lib.hid fun _ _ x => x)
def exc (f : Nat → Nat) (b t : Nat) : Nat → Nat := fun k => if k = b then t else f k
theorem exc_ne {f : Nat → Nat} {b t k : Nat} (h : k ≠ b) : exc f b t k = f k := if_neg h
theorem Tur.exc {f : Nat → Nat} {ks : List Nat} {a c : World} (p : Tur f ks a c) {b t : Nat} (ht : t ∈ ks) : Tur (exc f b t) ks a c := ⟨p.os, p.tape, p.output, p.size, fun k hk hn => p.block k hk (fun hm => hn (by
  unfold C.exc
  split
  · exact ht
  · exact hm))⟩
theorem Tur.set {f : Nat → Nat} {ks : List Nat} {a c : World} {b j t : Nat} {v : Value} (p : Tur (C.exc f b t) ks a c) (ht : t ∈ ks) : Tur (C.exc f b t) ks a (c.setCell ⟨b, j, none⟩ v) := p.trans (Tur.of_two (Two.setCell (g := b) (h := b) (x := ⟨b, j, none⟩) (Two.refl _ _ c) (.inl rfl) v) (by simpa [C.exc] using ht) (by simpa [C.exc] using ht))
section
variable {w : World} {A : PAd} {F : PCf} {S S1 S2 : PSt}
/-- The packet with its number. -/
def seqX (x : Array Value) (a : Int) : Array Value := x.setIfInBounds 0 (.int .i64 a)
theorem PkP.seq {x p : Array Value} {n : Int} (h : PkP x n p) (a : Int) : PkP (seqX x a) n p := by
  refine ⟨⟨⟨?_, ?_⟩, ?_⟩, ?_⟩
  · rw [seqX, Array.size_setIfInBounds]
    exact h.l.pk.size
  · have ho := h.l.pk.one
    rw [Array.all_eq_true] at ho ⊢
    intro i hi
    rw [seqX, Array.size_setIfInBounds] at hi
    simp only [seqX, Array.getElem_setIfInBounds hi]
    split
    · rfl
    · exact ho i hi
  · rw [seqX, Array.getElem?_setIfInBounds_ne (by omega)]
    exact h.l.len
  · rw [← h.pre]
    apply Array.ext_getElem?
    intro i
    have hs := h.l.pk.size
    rw [Array.getElem?_extract, Array.getElem?_extract, seqX, Array.size_setIfInBounds]
    split
    · rw [Array.getElem?_setIfInBounds_ne (by omega)]
    · rfl
theorem PkP.c0 {x p : Array Value} {n : Int} (h : PkP x n p) (a : Int) : (seqX x a)[0]? = some (.int .i64 a) := by
  have hs := h.l.pk.size
  rw [seqX, Array.getElem?_setIfInBounds_self_of_lt (by omega)]
def VZ : Array Value := #[.int .i64 0, .int .i64 0, .int .i64 0, .int .i64 0, .bool false, .bool false]
theorem vz_zero : (Tryz.prog.info? 35).map (fun i => (i.zero, i.size)) = some (some (.agg VZ), 6) := by kernel_rfl
end
end Go.Proofs.YtpanmfdbdgecaaaGreat.C

namespace Go.Proofs.YtpanmfdbdgecaaaGreat.C
open Go.RowKit
set_option linter.unusedVariables false
theorem make_qrow (n : Nat) (hn : n ≤ 65536) (W : World) : (Instr.makeSlice 69 (.int .i64 (n : Int)) (.int .i64 (n : Int))).run Tryz.prog W = .ok (.slice (some ⟨W.heap.size, 0, none⟩) n n) (W.alloc (.cells (List.replicate n (Value.int .i64 0)).toArray 2)) := by
  obtain ⟨i0, hi, hz0, hz1, hz2⟩ := info_parts (show (Tryz.prog.info? 2).map (fun i => (i.zero, i.size, i.bytes)) = some (some (.int .i64 0), 1, 8) by kernel_rfl)
  have hr := run_make (P := Tryz.prog) W 69 2 i0 (.int .i64 0) Tryz.underlying69 hi hz0 .i64 .i64 n n (by omega) (by omega) (by rw [hz2]; omega) (by omega)
  simp only [Int.toNat_natCast] at hr
  rw [hr, hz1, Nat.mul_one]
  have e : madeCells (Value.int .i64 0).cells n = (List.replicate n (Value.int .i64 0)).toArray := by
    apply Array.toList_inj.1
    show (madeCells #[Value.int .i64 0] n).toList = _
    rw [toList_madeCells_one]
  rw [e]
theorem quota_new (n : Nat) (r m : Int) (w : World) (h1 : 1 ≤ n) (h2 : n ≤ 129) (hr : 0 ≤ r ∧ r ≤ 1073741824) (hm : 0 ≤ m ∧ m ≤ 1073741824) :
    Calls Tryz.prog 61 #[.int .i64 (n : Nat), .int .i64 r, .int .i64 m] w fun e w' => ∃ pb b, e = .returned (.tuple #[.pointer (some ⟨pb, 0, none⟩), .int .i64 0]) ∧ (w.heap.size ≤ pb ∧ w.heap.size ≤ b) ∧ QU.QAt w' pb b r m 0 (List.replicate n 0) ∧ Below w.heap.size w w' := by
  have hmk := make_qrow n (by omega)
  have he : (List.replicate n (Value.int .i64 0)).toArray = QU.ints (List.replicate n 0) := by simp [QU.ints]
  have hl : (List.replicate n (0 : Int)).length = n := by simp
  obtain ⟨hr0, hr1⟩ := hr
  obtain ⟨hm0, hm1⟩ := hm
  rw [he] at hmk
  generalize List.replicate n (0 : Int) = l at *
  have HLL := Lib.hid hl
  clear he hl
  obtain ⟨C, hC⟩ : ∃ z, QU.ints l = z := ⟨_, rfl⟩
  rw [hC] at hmk
  have HC := Lib.hid hC
  clear hC
  refine calls_hide fun Q HQ => ?_
  go_enter Tryz.func61, Tryz.ntmps61
  go_wp2
  refine HQ.out _ _ ⟨w.heap.size + 1, w.heap.size, rfl, ⟨by omega, Nat.le_refl _⟩, ⟨?_, ?_⟩, ((Below.refl _ _).alloc (Nat.le_refl _) _).alloc (by simp) _⟩
  · rw [HLL.out]
    have := Go.heap_alloc_new (w.alloc (.cells C 2)) (.cells #[.int .i64 r, .int .i64 m, .int .i64 0, .slice (some ⟨w.heap.size, 0, none⟩) n n] 255)
    simpa using this
  · rw [Go.heap_alloc_old _ _ (by simp), HC.out]
    exact Go.heap_alloc_new _ _
/-- The police's block while it is made. -/
def polA (cv : Array Value) (vs : List Value) : Array Value := cv ++ vs.toArray
def fp (pb : Nat) : Nat → Nat := fun k => if k = pb then 1 else 0
theorem fp_ne {pb k : Nat} (h : k ≠ pb) : fp pb k ∉ [1] := by
  unfold fp
  rw [if_neg h]
  decide
theorem polA_at {cv : Array Value} {vs : List Value} (hs : cv.size = 20) (i : Nat) : (polA cv vs)[20 + i]? = vs[i]? := by
  rw [polA, Array.getElem?_append_right (by omega), hs, Nat.add_sub_cancel_left, List.getElem?_toArray]
theorem par_cell {w : World} {pb : Nat} {cv : Array Value} {vs : List Value} (h : w.heap[pb]? = some (.cells (polA cv vs) 142 (0, 0))) (hs : cv.size = 20) (j i : Nat) (hj : j = 20 + i) (v : Value) (hv : vs[i]? = some v) : w.cell? ⟨pb, j, none⟩ = some v := by
  subst hj
  exact cells_of_row h _ _ (by rw [polA_at hs]; exact hv)
theorem par_set {w : World} {pb : Nat} {cv : Array Value} {vs : List Value} (h : w.heap[pb]? = some (.cells (polA cv vs) 142 (0, 0))) (hs : cv.size = 20) (j i : Nat) (hj : j = 20 + i) (v : Value) : (w.setCell ⟨pb, j, none⟩ v).heap[pb]? = some (.cells (polA cv (vs.set i v)) 142 (0, 0)) ∧ Tur (fp pb) [1] w (w.setCell ⟨pb, j, none⟩ v) := by
  subst hj
  refine ⟨?_, Tur.of_two (Two.setCell (g := pb) (h := pb) (x := ⟨pb, 20 + i, none⟩) (Two.refl _ _ w) (.inl rfl) v) (by simp [fp]) (by simp [fp])⟩
  rw [heap_setCell_same _ _ _ _ _ _ h, polA, Array.setIfInBounds_append_right (by omega), hs]
  simp [polA]
theorem cfg_cells {cv : Array Value} {c : Nat → Int} (h : Cfg cv c) : cv = #[.int .i64 (c 0), .int .i64 (c 1), .int .i64 (c 2), .int .i64 (c 3), .int .i64 (c 4), .int .i64 (c 5), .int .i64 (c 6), .int .i64 (c 7), .int .i64 (c 8), .int .i64 (c 9), .int .i64 (c 10), .int .i64 (c 11), .int .i64 (c 12), .int .i64 (c 13), .int .i64 (c 14), .int .i64 (c 15), .int .i64 (c 16), .int .i64 (c 17), .int .i64 (c 18), .int .i64 (c 19)] := by
  apply Array.ext_getElem?
  intro i
  by_cases hi : i < 20
  · rw [h.at_ i hi]
    rcases (show i = 0 ∨ i = 1 ∨ i = 2 ∨ i = 3 ∨ i = 4 ∨ i = 5 ∨ i = 6 ∨ i = 7 ∨ i = 8 ∨ i = 9 ∨ i = 10 ∨ i = 11 ∨ i = 12 ∨ i = 13 ∨ i = 14 ∨ i = 15 ∨ i = 16 ∨ i = 17 ∨ i = 18 ∨ i = 19 by omega) with rfl | rfl | rfl | rfl | rfl | rfl | rfl | rfl | rfl | rfl | rfl | rfl | rfl | rfl | rfl | rfl | rfl | rfl | rfl | rfl <;> rfl
  · rw [Array.getElem?_eq_none (by have := h.size; omega), Array.getElem?_eq_none (by simp; omega)]
def nils : List Value := [.pointer none, .pointer none, .pointer none, .pointer none, .pointer none, .pointer none, .pointer none, .pointer none, .int .i64 0]
theorem build_pol {cv : Array Value} {c : Nat → Int} (h : Cfg cv c) (w : World) : (Instr.build 142 #[(0, .agg cv)]).run Tryz.prog w = .ok (.agg (polA cv nils)) w := by
  rw [cfg_cells h]
  exact run_build w 142 _ _ (by kernel_rfl)
section
variable {P : Program} {ops : Array Oper} {a : Act} {w : World} {K : Act → World → Prop} {Q : Exit → Act → World → Prop} {E : Prop} {ty : TypeId} {pos : String} {after : Array Edge}
theorem step_box (d s : Nat) (t : TypeId) (x : Array Value) (hx : a.tmps.getD s undef = .agg x)
    (h : ∀ W, Hid (Below w.heap.size w W) → Hid (W.heap[w.heap.size]? = some (.cells x t (0, 0))) → Hid (W.heap.size = w.heap.size + 1) → K (a.put (some d) (.pointer (some ⟨w.heap.size, 0, none⟩))) W) :
    if Region.wanted ⟨some d, .box t (.tmp s), ty, pos, after, none⟩ (yielded ops a.tmps) = true then Oper.wp P ⟨some d, .box t (.tmp s), ty, pos, after, none⟩ a w K Q else E := by
  rw [if_pos (by simp [Region.wanted])]
  unfold Oper.wp execOp
  simp only [hx, Instr.box, newVar, Value.cells, Sem.run_bind, Sem.run_pure, Result.andThen_ok, go_sem]
  exact h _ (Lib.hid ((Below.refl _ _).alloc (Nat.le_refl _) _)) (Lib.hid (Go.heap_alloc_new _ _)) (Lib.hid (by simp))
end
end Go.Proofs.YtpanmfdbdgecaaaGreat.C

namespace Go.Proofs.YtpanmfdbdgecaaaGreat.C
open Go.RowKit
set_option linter.unusedVariables false
/-- A police without packets. -/
def pst0 (nb lv bn rm : Nat) : PSt := ⟨List.replicate (2 * nb + 1) [], 0, List.replicate (2 * nb + 1) 0, List.replicate (2 * nb + 1) ⟨false, false, 0⟩, [], List.replicate (lv * bn) ⟨0, 0, 0⟩, List.replicate (lv * bn) ⟨0, 0, 0⟩, [], 0, 0, List.replicate (2 * rm) plc0, 0, 0, fun _ => none⟩
theorem sto_lt {w : World} {s : Adr} {L : List (List (Array Value))} {R : Nat} (h : Sto w s L R) : ∀ x ∈ s.sb :: s.pb :: s.bs, x < w.heap.size := by
  obtain ⟨A, fl, Q, h⟩ := h
  obtain ⟨h1, h2, h3, h4, h5, h6, h7⟩ := h.lt
  intro x hx
  simp only [Adr.bs, List.mem_cons, List.not_mem_nil, or_false] at hx
  rcases hx with rfl | rfl | rfl | rfl | rfl | rfl | rfl <;> assumption
theorem tn_lt {w : World} {x y z : Nat} {q : Int} {l : List Tcl} {line : List Nat} (h : TnAt w x y z q l line) : x < w.heap.size ∧ y < w.heap.size ∧ z < w.heap.size := by
  obtain ⟨C, c1, c2⟩ := h.lin
  exact ⟨(Array.getElem?_eq_some_iff.1 h.ptr).1, (Array.getElem?_eq_some_iff.1 h.row).1, (Array.getElem?_eq_some_iff.1 c1).1⟩
theorem wi_lt {w : World} {x y z : Nat} {l : List Slt} {room : Nat} {t ns thr num : Int} (h : WiAt w x y z l room t ns thr num) : x < w.heap.size ∧ y < w.heap.size ∧ z < w.heap.size := by
  obtain ⟨C, c1, c2⟩ := h.sk.row
  exact ⟨(Array.getElem?_eq_some_iff.1 h.ptr).1, (Array.getElem?_eq_some_iff.1 h.sk.ptr).1, (Array.getElem?_eq_some_iff.1 c1).1⟩
theorem bx_lt {w : World} {x y z : Nat} {l : List Plc} {room : Nat} {n term rate burst : Int} (h : BxAt w x y z l room n term rate burst) : x < w.heap.size ∧ y < w.heap.size ∧ z < w.heap.size := ⟨(Array.getElem?_eq_some_iff.1 h.ptr).1, (Array.getElem?_eq_some_iff.1 h.tb.ptr).1, (Array.getElem?_eq_some_iff.1 h.tb.row).1⟩
def tagR (pb a b c d e n f g h k : Nat) : Nat := if k = pb then 1 else if k < a then 0 else if k < b then 2 else if k < c then 3 else if k < d then 4 else if k < e then 5 else if k < n then 6 else if k < f then 7 else if k < g then 8 else if k < h then 9 else 0
structure OrdR (pb a b c d e n f g h : Nat) : Prop where
  o0 : pb < a
  o1 : a ≤ b
  o2 : b ≤ c
  o3 : c ≤ d
  o4 : d ≤ e
  o5 : e ≤ n
  o6 : n ≤ f
  o7 : f ≤ g
  o8 : g ≤ h
section
variable {pb a b c d e n f g h k : Nat}
theorem tag1 : tagR pb a b c d e n f g h pb = 1 := if_pos rfl
theorem tag2 (o : OrdR pb a b c d e n f g h) (h0 : a ≤ k) (h1 : k < b) : tagR pb a b c d e n f g h k = 2 := by
  obtain ⟨o0, o1, o2, o3, o4, o5, o6, o7, o8⟩ := o
  rw [tagR, if_neg (by omega), if_neg (by omega), if_pos (by omega)]
theorem tag3 (o : OrdR pb a b c d e n f g h) (h0 : b ≤ k) (h1 : k < c) : tagR pb a b c d e n f g h k = 3 := by
  obtain ⟨o0, o1, o2, o3, o4, o5, o6, o7, o8⟩ := o
  rw [tagR, if_neg (by omega), if_neg (by omega), if_neg (by omega), if_pos (by omega)]
theorem tag4 (o : OrdR pb a b c d e n f g h) (h0 : c ≤ k) (h1 : k < d) : tagR pb a b c d e n f g h k = 4 := by
  obtain ⟨o0, o1, o2, o3, o4, o5, o6, o7, o8⟩ := o
  rw [tagR, if_neg (by omega), if_neg (by omega), if_neg (by omega), if_neg (by omega), if_pos (by omega)]
theorem tag5 (o : OrdR pb a b c d e n f g h) (h0 : d ≤ k) (h1 : k < e) : tagR pb a b c d e n f g h k = 5 := by
  obtain ⟨o0, o1, o2, o3, o4, o5, o6, o7, o8⟩ := o
  rw [tagR, if_neg (by omega), if_neg (by omega), if_neg (by omega), if_neg (by omega), if_neg (by omega), if_pos (by omega)]
theorem tag6 (o : OrdR pb a b c d e n f g h) (h0 : e ≤ k) (h1 : k < n) : tagR pb a b c d e n f g h k = 6 := by
  obtain ⟨o0, o1, o2, o3, o4, o5, o6, o7, o8⟩ := o
  rw [tagR, if_neg (by omega), if_neg (by omega), if_neg (by omega), if_neg (by omega), if_neg (by omega), if_neg (by omega), if_pos (by omega)]
theorem tag7 (o : OrdR pb a b c d e n f g h) (h0 : n ≤ k) (h1 : k < f) : tagR pb a b c d e n f g h k = 7 := by
  obtain ⟨o0, o1, o2, o3, o4, o5, o6, o7, o8⟩ := o
  rw [tagR, if_neg (by omega), if_neg (by omega), if_neg (by omega), if_neg (by omega), if_neg (by omega), if_neg (by omega), if_neg (by omega), if_pos (by omega)]
theorem tag8 (o : OrdR pb a b c d e n f g h) (h0 : f ≤ k) (h1 : k < g) : tagR pb a b c d e n f g h k = 8 := by
  obtain ⟨o0, o1, o2, o3, o4, o5, o6, o7, o8⟩ := o
  rw [tagR, if_neg (by omega), if_neg (by omega), if_neg (by omega), if_neg (by omega), if_neg (by omega), if_neg (by omega), if_neg (by omega), if_neg (by omega), if_pos (by omega)]
theorem tag9 (o : OrdR pb a b c d e n f g h) (h0 : g ≤ k) (h1 : k < h) : tagR pb a b c d e n f g h k = 9 := by
  obtain ⟨o0, o1, o2, o3, o4, o5, o6, o7, o8⟩ := o
  rw [tagR, if_neg (by omega), if_neg (by omega), if_neg (by omega), if_neg (by omega), if_neg (by omega), if_neg (by omega), if_neg (by omega), if_neg (by omega), if_neg (by omega), if_pos (by omega)]
theorem tagL (o : OrdR pb a b c d e n f g h) (h0 : k < pb) : tagR pb a b c d e n f g h k = 0 := by
  obtain ⟨o0, o1, o2, o3, o4, o5, o6, o7, o8⟩ := o
  rw [tagR, if_neg (by omega), if_pos (by omega)]
theorem tag0 (o : OrdR pb a b c d e n f g h) (h0 : h ≤ k) : tagR pb a b c d e n f g h k = 0 := by
  obtain ⟨o0, o1, o2, o3, o4, o5, o6, o7, o8⟩ := o
  rw [tagR, if_neg (by omega), if_neg (by omega), if_neg (by omega), if_neg (by omega), if_neg (by omega), if_neg (by omega), if_neg (by omega), if_neg (by omega), if_neg (by omega), if_neg (by omega)]
end
theorem key_size : (Tryz.prog.info? 22).map (·.size) = some 16 := by kernel_rfl
set_option maxRecDepth 100000 in
set_option maxHeartbeats 4000000 in
theorem police_new (cv : Array Value) (c : Nat → Int) (kv : Array Value) (w : World) (hv : Cfg cv c) (hr : RightC c) (hk : kv.size = 16) :
    Calls Tryz.prog 35 #[.agg cv, .agg kv] w fun e w' => ∃ A G, e = .returned (.tuple #[.pointer (some ⟨A.pb, 0, none⟩), .int .i64 0]) ∧ w.heap.size ≤ A.pb ∧ Pol w' A ⟨cv, c, kv, G⟩ (pst0 (c 0).toNat (c 2).toNat (c 3).toNat (c 7).toNat) ∧ A.lim = w'.heap.size ∧ (∀ k, k < w.heap.size → A.tg k = 0) ∧ Below w.heap.size w w' := by
  have CR := Lib.hid (fun w' => config_right cv c w' hv hr)
  have HBP := Lib.hid (fun w' => build_pol hv w')
  have HV := Lib.hid hv
  have HR := Lib.hid hr
  have HK := Lib.hid hk
  have h20 := Lib.hid hv.size
  obtain ⟨nb, hnb⟩ := Int.eq_ofNat_of_zero_le (show 0 ≤ c 0 by have := hr.buckets; omega)
  obtain ⟨pk, hpk⟩ := Int.eq_ofNat_of_zero_le (show 0 ≤ c 1 by have := hr.packets; omega)
  obtain ⟨lv, hlv⟩ := Int.eq_ofNat_of_zero_le (show 0 ≤ c 2 by have := hr.levels; omega)
  obtain ⟨bn, hbn⟩ := Int.eq_ofNat_of_zero_le (show 0 ≤ c 3 by have := hr.bins; omega)
  obtain ⟨sl, hsl⟩ := Int.eq_ofNat_of_zero_le (show 0 ≤ c 6 by have := hr.slots; omega)
  obtain ⟨rm, hrm⟩ := Int.eq_ofNat_of_zero_le (show 0 ≤ c 7 by have := hr.room; omega)
  have hnb1 : 1 ≤ nb ∧ nb ≤ 64 := by have := hr.buckets; omega
  have HNB := Lib.hid hnb1
  obtain ⟨m, hm⟩ : ∃ m, 2 * nb + 1 = m := ⟨_, rfl⟩
  have hmI : 2 * (nb : Int) + 1 = (m : Int) := by omega
  have hw1 : IntKind.i64.wrap (2 * (nb : Int)) = 2 * (nb : Int) := IntWalk.i64_in _ (by omega)
  have hw2 : IntKind.i64.wrap (m : Int) = (m : Int) := IntWalk.i64_in _ (by omega)
  have hm0 : 1 ≤ m ∧ m ≤ 129 := by omega
  have CG := Lib.hid (fun w' => gens_new nb kv w' hk hnb1.1 hnb1.2)
  have CS := Lib.hid (fun w' => st_new m pk w' hm0.1 hm0.2 (by have := hr.packets; omega) (by have := hr.packets; omega))
  have CQ := Lib.hid (fun w' => quota_new m (c 9) (c 10) w' hm0.1 hm0.2 hr.reserve hr.shared)
  have CT := Lib.hid (fun w' => turns_new m (c 8) w' hm0.1 hm0.2 (by have := hr.quantum; omega) hr.quantum.2)
  have CB := Lib.hid (fun w' => blue_new lv bn (c 13) (c 14) (c 4) (c 5) w' (by have := hr.levels; omega) (by have := hr.levels; omega) (by have := hr.bins; omega) (by have := hr.bins; omega) hr.target.1 hr.target.2 hr.up.1 hr.up.2 hr.down.1 hr.down.2 hr.hold.1 hr.hold.2)
  have CW := Lib.hid (fun w' => window_new sl (c 15) (c 16) w' (by have := hr.slots; omega) (by have := hr.slots; omega) hr.window.1 hr.window.2 hr.thr.1 hr.thr.2)
  have CX := Lib.hid (fun w' => box_new rm (c 17) (c 18) (c 19) w' (by have := hr.room; omega) (by have := hr.room; omega) hr.term.1 hr.term.2 hr.rate.1 hr.rate.2 hr.burst.1 hr.burst.2)
  have HL : Hid (∀ (w' : World) (b : Nat), w'.heap[b]? = some (.cells cv 26 (0, 0)) → (w'.cell? ⟨b, 0, none⟩ = some (.int .i64 (nb : Nat)) ∧ w'.cell? ⟨b, 1, none⟩ = some (.int .i64 (pk : Nat)) ∧ w'.cell? ⟨b, 9, none⟩ = some (.int .i64 (c 9)) ∧ w'.cell? ⟨b, 10, none⟩ = some (.int .i64 (c 10)) ∧ w'.cell? ⟨b, 8, none⟩ = some (.int .i64 (c 8))) ∧ (w'.cell? ⟨b, 2, none⟩ = some (.int .i64 (lv : Nat)) ∧ w'.cell? ⟨b, 3, none⟩ = some (.int .i64 (bn : Nat)) ∧ w'.cell? ⟨b, 13, none⟩ = some (.int .i64 (c 13)) ∧ w'.cell? ⟨b, 14, none⟩ = some (.int .i64 (c 14)) ∧ w'.cell? ⟨b, 4, none⟩ = some (.int .i64 (c 4)) ∧ w'.cell? ⟨b, 5, none⟩ = some (.int .i64 (c 5))) ∧ (w'.cell? ⟨b, 6, none⟩ = some (.int .i64 (sl : Nat)) ∧ w'.cell? ⟨b, 15, none⟩ = some (.int .i64 (c 15)) ∧ w'.cell? ⟨b, 16, none⟩ = some (.int .i64 (c 16)) ∧ w'.cell? ⟨b, 7, none⟩ = some (.int .i64 (rm : Nat)) ∧ w'.cell? ⟨b, 17, none⟩ = some (.int .i64 (c 17)) ∧ w'.cell? ⟨b, 18, none⟩ = some (.int .i64 (c 18)) ∧ w'.cell? ⟨b, 19, none⟩ = some (.int .i64 (c 19)))) := Lib.hid fun w' b hb => by
    rw [← hnb, ← hpk, ← hlv, ← hbn, ← hsl, ← hrm]
    exact ⟨⟨hv.cell hb 0 (by decide), hv.cell hb 1 (by decide), hv.cell hb 9 (by decide), hv.cell hb 10 (by decide), hv.cell hb 8 (by decide)⟩, ⟨hv.cell hb 2 (by decide), hv.cell hb 3 (by decide), hv.cell hb 13 (by decide), hv.cell hb 14 (by decide), hv.cell hb 4 (by decide), hv.cell hb 5 (by decide)⟩, ⟨hv.cell hb 6 (by decide), hv.cell hb 15 (by decide), hv.cell hb 16 (by decide), hv.cell hb 7 (by decide), hv.cell hb 17 (by decide), hv.cell hb 18 (by decide), hv.cell hb 19 (by decide)⟩⟩
  have HN := Lib.hid (And.intro hnb (And.intro hpk (And.intro hlv (And.intro hbn (And.intro hsl (And.intro hrm hm))))))
  have hkey : ∀ (w' : World) (b : Nat), w'.heap[b]? = some (.cells kv 22 (0, 0)) → (Instr.loadAt 22 (.pointer (some ⟨b, 0, none⟩))).run Tryz.prog w' = .ok (.agg kv) w' := fun w' b hb => box_load (t := 22) hb _ Tryz.underlying22 rfl (by rw [hk]; exact key_size)
  have HKEY := Lib.hid hkey
  have hcl : ∀ (w' : World) (b : Nat), w'.heap[b]? = some (.cells cv 26 (0, 0)) → (Instr.loadAt 26 (.pointer (some ⟨b, 0, none⟩))).run Tryz.prog w' = .ok (.agg cv) w' := fun w' b hb => cfg_load hb hv
  have HCL := Lib.hid hcl
  clear hkey hcl hnb hpk hlv hbn hsl hrm hm hv hr hk hnb1 hm0
  refine calls_hide fun Q HQ => ?_
  go_enter Tryz.func35, Tryz.ntmps35
  go_upto_region 1 with (first | ((with_reducible refine arm_box 2 0 26 cv ?_ ?_); rfl; intro w1 HB1 HX1 HS1) | ((with_reducible refine arm_box 3 1 22 kv ?_ ?_); rfl; intro w2 HB2 HX2 HS2))
  have C2 := Lib.hid (keep_block HB2.out HX1.out)
  have B2 := Lib.hid (HB1.out.trans (HB2.out.mono HB1.out.size))
  have hld := HCL.out _ _ C2.out
  generalize w1.heap.size = kb at *
  clear HB1 HX1 HS1 HB2 HS2
  go_wp2_with ((with_reducible refine arm_loadg 9 2 26 (.pointer (some ⟨w.heap.size, 0, none⟩)) (.agg cv) hld ?_ ?_ ?_); rfl; rfl)
  refine (CR.out _).mono ?_
  rintro e w3 ⟨rfl, hB3⟩
  have C3 := Lib.hid (keep_block hB3 C2.out)
  have K3 := Lib.hid (keep_block hB3 HX2.out)
  have B3 := Lib.hid (B2.out.trans (hB3.mono B2.out.size))
  clear hld C2 HX2 B2 hB3 CR
  have HL3 : Hid (∀ w', Below w3.heap.size w3 w' → w'.cell? ⟨w.heap.size, 0, none⟩ = some (.int .i64 (nb : Nat)) ∧ (Instr.loadAt 26 (.pointer (some ⟨w.heap.size, 0, none⟩))).run Tryz.prog w' = .ok (.agg cv) w') := Lib.hid fun w' q => ⟨(HL.out _ _ (keep_block q C3.out)).1.1, HCL.out _ _ (keep_block q C3.out)⟩
  have hlc : w.heap.size < w3.heap.size := (Array.getElem?_eq_some_iff.1 C3.out).1
  go_wp2_with fail
  refine wp_region_held_drew (S := Below w3.heap.size w3) (by kernel_rfl) (Below.refl _ _).drew (fun hHeld => ?_)
  refine wpAnyH_take (i := 0) (oi := ⟨some 12, _, _, _, _, _⟩) (v := .agg cv) rfl (by kernel_rfl) (by kernel_rfl) (by kernel_rfl) (fun _ _ _ h => h) (Or.inl ⟨by rfl, fun w hSw => exec_load rfl (HL3.out w hSw).2⟩) hHeld ?_
  try simp only [Act.put, List.setIfInBounds_toArray, List.set_cons_zero, List.set_cons_succ]
  refine wpAnyH_take (i := 1) (oi := ⟨some 13, _, _, _, _, _⟩) (v := .agg (polA cv nils)) rfl (by kernel_rfl) (by kernel_rfl) (by kernel_rfl) (fun _ _ _ h => h) (Or.inl ⟨by rfl, fun w hSw => exec_build (vals := #[(0, .agg cv)]) (by simp [Act.eval]) (HBP.out w)⟩) hHeld ?_
  try simp only [Act.put, List.setIfInBounds_toArray, List.set_cons_zero, List.set_cons_succ]
  refine wpAnyH_take (i := 3) (oi := ⟨some 15, _, _, _, _, _⟩) (v := ?_) rfl (by kernel_rfl) (by kernel_rfl) (by kernel_rfl) (fun _ _ _ h => h) (Or.inl ⟨by rfl, ?_⟩) hHeld ?_
  rotate_left
  · intro w hSw
    go_simp
    try with_reducible rfl
  try simp only [Act.put, List.setIfInBounds_toArray, List.set_cons_zero, List.set_cons_succ]
  refine wpAnyH_take (i := 4) (oi := ⟨some 16, _, _, _, _, _⟩) (v := ?_) rfl (by kernel_rfl) (by kernel_rfl) (by kernel_rfl) (fun _ _ _ h => h) (Or.inl ⟨by rfl, ?_⟩) hHeld ?_
  rotate_left
  · intro w hSw
    obtain ⟨k0, _⟩ := HL3.out w hSw
    go_simp
    try with_reducible rfl
  try simp only [Act.put, List.setIfInBounds_toArray, List.set_cons_zero, List.set_cons_succ]
  refine wpAnyH_take (i := 5) (oi := ⟨some 17, _, _, _, _, _⟩) (v := ?_) rfl (by kernel_rfl) (by kernel_rfl) (by kernel_rfl) (fun _ _ _ h => h) (Or.inl ⟨by rfl, ?_⟩) hHeld ?_
  rotate_left
  · intro w hSw
    go_simp
    try with_reducible rfl
  try simp only [Act.put, List.setIfInBounds_toArray, List.set_cons_zero, List.set_cons_succ]
  refine wpAnyH_take (i := 6) (oi := ⟨some 18, _, _, _, _, _⟩) (v := ?_) rfl (by kernel_rfl) (by kernel_rfl) (by kernel_rfl) (fun _ _ _ h => h) (Or.inl ⟨by rfl, ?_⟩) hHeld ?_
  rotate_left
  · intro w hSw
    go_simp
    try with_reducible rfl
  try simp only [Act.put, List.setIfInBounds_toArray, List.set_cons_zero, List.set_cons_succ]
  refine wpAnyH_ready (rs := [2]) (by kernel_rfl) (by simp) ?_
  refine AllReadyH.cons rfl (fun K hK => ?_) AllReadyH.nil
  refine step_box 14 13 142 (polA cv nils) rfl ?_; intro w4 HB4 HX4 HS4
  refine hK.out _ _ (hHeld.trans HB4.out) (fun hHeld => ?_)
  clear hK K
  refine wpAnyH_take (i := 7) (oi := ⟨some 6, _, _, _, _, _⟩) (v := ?_) rfl (by kernel_rfl) (by kernel_rfl) (by kernel_rfl) (fun _ _ _ h => h) (Or.inl ⟨by rfl, ?_⟩) hHeld ?_
  rotate_left
  · intro w hSw
    go_simp
    try with_reducible rfl
  try simp only [Act.put, List.setIfInBounds_toArray, List.set_cons_zero, List.set_cons_succ]
  refine wpAnyH_take (i := 8) (oi := ⟨some 7, _, _, _, _, _⟩) (v := ?_) rfl (by kernel_rfl) (by kernel_rfl) (by kernel_rfl) (fun _ _ _ h => h) (Or.inl ⟨by rfl, ?_⟩) hHeld ?_
  rotate_left
  · intro w hSw
    go_simp
    try with_reducible rfl
  try simp only [Act.put, List.setIfInBounds_toArray, List.set_cons_zero, List.set_cons_succ]
  refine wpAnyH_done (by kernel_rfl) ?_ _
  rw [show w3.drew.heap.size = w3.heap.size from rfl] at HX4 HS4
  have C4 := Lib.hid (keep_block hHeld C3.out)
  have K4 := Lib.hid (keep_block hHeld K3.out)
  have B4 := Lib.hid (B3.out.trans (hHeld.mono B3.out.size))
  have hpb0 := B3.out.size
  obtain ⟨pb, hpb⟩ : ∃ z, w3.heap.size = z := ⟨_, rfl⟩
  have e3 : w3.drew.heap.size = pb := hpb
  rw [hpb] at HX4 HS4 hlc hpb0
  simp only [e3, hpb]
  have hS4 : pb < w4.heap.size := by have := HS4.out; omega
  clear hHeld HB4 HL3 C3 K3 B3 HS4 e3 hpb HBP HCL
  have P4 := HX4
  clear HX4
  have hkl := HKEY.out _ _ K4.out
  have c0 := (HL.out _ _ C4.out).1.1
  go_wp2_with ((with_reducible refine arm_loadg 23 3 22 (.pointer (some ⟨kb, 0, none⟩)) (.agg kv) hkl ?_ ?_ ?_); rfl; rfl)
  refine (CG.out _).mono ?_
  rintro e W ⟨gb, G, rfl, hg1, hG, hB⟩
  have cP := par_cell (keep_block hB P4.out) h20.out 20 0 rfl _ rfl
  have fP : W.frozen? ⟨pb, 20, none⟩ = false := frozen_of_row _ _ _ _ _ (keep_block hB P4.out)
  go_upto_region 5 with (fail)
  obtain ⟨hp, hE⟩ := par_set (keep_block hB P4.out) h20.out 20 0 rfl (.pointer (some ⟨gb, 0, none⟩))
  have E5 : Hid (Tur (fp pb) [1] w4 (W.setCell ⟨pb, 20, none⟩ (.pointer (some ⟨gb, 0, none⟩)))) := Lib.hid ((Tur.of_below hB).trans hE)
  have P5 := Lib.hid hp
  have C5 := Lib.hid (E5.out.keep C4.out (fp_ne (by omega)))
  have X0 := Lib.hid (hG.tur hE (fp_ne (by omega)))
  have hg2 : gb < W.heap.size := (Array.getElem?_eq_some_iff.1 hG.ptr).1
  have hq5 : gb < (W.setCell ⟨pb, 20, none⟩ (.pointer (some ⟨gb, 0, none⟩))).heap.size := Nat.lt_of_lt_of_le hg2 hE.size
  clear hG hg2 c0 hkl K4
  have hz5 : w4.heap.size ≤ (W.setCell ⟨pb, 20, none⟩ (.pointer (some ⟨gb, 0, none⟩))).heap.size := E5.out.size
  clear cP fP hp hE hB P4 C4 CG
  generalize W.setCell ⟨pb, 20, none⟩ (.pointer (some ⟨gb, 0, none⟩)) = w5 at *
  have c1 := (HL.out _ _ C5.out).1.2.1
  go_wp2_with fail
  refine (CS.out _).mono ?_
  rintro e W ⟨sa, rfl, hs1, hS, hB⟩
  have cP := par_cell (keep_block hB P5.out) h20.out 21 1 rfl _ rfl
  have fP : W.frozen? ⟨pb, 21, none⟩ = false := frozen_of_row _ _ _ _ _ (keep_block hB P5.out)
  go_upto_region 6 with (fail)
  obtain ⟨hp, hE⟩ := par_set (keep_block hB P5.out) h20.out 21 1 rfl (.pointer (some ⟨sa.sb, 0, none⟩))
  have E6 : Hid (Tur (fp pb) [1] w5 (W.setCell ⟨pb, 21, none⟩ (.pointer (some ⟨sa.sb, 0, none⟩)))) := Lib.hid ((Tur.of_below hB).trans hE)
  have P6 := Lib.hid hp
  have C6 := Lib.hid (E6.out.keep C5.out (fp_ne (by omega)))
  have X1 := Lib.hid (hS.tur hE (fun x hx => fp_ne (by have := hs1 x hx; omega)))
  have hs2 : ∀ x ∈ sa.sb :: sa.pb :: sa.bs, x < W.heap.size := sto_lt hS
  have hq6 : ∀ x ∈ sa.sb :: sa.pb :: sa.bs, w5.heap.size ≤ x ∧ x < (W.setCell ⟨pb, 21, none⟩ (.pointer (some ⟨sa.sb, 0, none⟩))).heap.size := fun x hx => ⟨hs1 x hx, Nat.lt_of_lt_of_le (hs2 x hx) hE.size⟩
  have HQ6 := Lib.hid hq6
  clear hS hs1 hs2 c1 hq6
  have hz6 : w5.heap.size ≤ (W.setCell ⟨pb, 21, none⟩ (.pointer (some ⟨sa.sb, 0, none⟩))).heap.size := E6.out.size
  clear cP fP hp hE hB P5 C5 CS
  generalize W.setCell ⟨pb, 21, none⟩ (.pointer (some ⟨sa.sb, 0, none⟩)) = w6 at *
  obtain ⟨_, _, c9, c10, _⟩ := (HL.out _ _ C6.out).1
  go_wp2_with fail
  refine (CQ.out _).mono ?_
  rintro e W ⟨qb, qr, rfl, ⟨hq1, hq2⟩, hQ, hB⟩
  have cP := par_cell (keep_block hB P6.out) h20.out 22 2 rfl _ rfl
  have fP : W.frozen? ⟨pb, 22, none⟩ = false := frozen_of_row _ _ _ _ _ (keep_block hB P6.out)
  go_upto_region 7 with (fail)
  obtain ⟨hp, hE⟩ := par_set (keep_block hB P6.out) h20.out 22 2 rfl (.pointer (some ⟨qb, 0, none⟩))
  have E7 : Hid (Tur (fp pb) [1] w6 (W.setCell ⟨pb, 22, none⟩ (.pointer (some ⟨qb, 0, none⟩)))) := Lib.hid ((Tur.of_below hB).trans hE)
  have P7 := Lib.hid hp
  have C7 := Lib.hid (E7.out.keep C6.out (fp_ne (by omega)))
  have X2 := Lib.hid (hQ.tur hE (fp_ne (by omega)) (fp_ne (by omega)))
  have hq3 : qb < W.heap.size := (Array.getElem?_eq_some_iff.1 hQ.ptr).1
  have hq4 : qr < W.heap.size := (Array.getElem?_eq_some_iff.1 hQ.row).1
  have hq7 : qb < (W.setCell ⟨pb, 22, none⟩ (.pointer (some ⟨qb, 0, none⟩))).heap.size ∧ qr < (W.setCell ⟨pb, 22, none⟩ (.pointer (some ⟨qb, 0, none⟩))).heap.size := ⟨Nat.lt_of_lt_of_le hq3 hE.size, Nat.lt_of_lt_of_le hq4 hE.size⟩
  clear hQ hq3 hq4 c9 c10
  have hz7 : w6.heap.size ≤ (W.setCell ⟨pb, 22, none⟩ (.pointer (some ⟨qb, 0, none⟩))).heap.size := E7.out.size
  clear cP fP hp hE hB P6 C6 CQ
  generalize W.setCell ⟨pb, 22, none⟩ (.pointer (some ⟨qb, 0, none⟩)) = w7 at *
  obtain ⟨_, _, _, _, c8⟩ := (HL.out _ _ C7.out).1
  go_wp2_with fail
  refine (CT.out _).mono ?_
  rintro e W ⟨tb, t1, t2, rfl, ⟨ht1, ht2, ht3⟩, hT, hB⟩
  have cP := par_cell (keep_block hB P7.out) h20.out 23 3 rfl _ rfl
  have fP : W.frozen? ⟨pb, 23, none⟩ = false := frozen_of_row _ _ _ _ _ (keep_block hB P7.out)
  go_upto_region 8 with (fail)
  obtain ⟨hp, hE⟩ := par_set (keep_block hB P7.out) h20.out 23 3 rfl (.pointer (some ⟨tb, 0, none⟩))
  have E8 : Hid (Tur (fp pb) [1] w7 (W.setCell ⟨pb, 23, none⟩ (.pointer (some ⟨tb, 0, none⟩)))) := Lib.hid ((Tur.of_below hB).trans hE)
  have P8 := Lib.hid hp
  have C8 := Lib.hid (E8.out.keep C7.out (fp_ne (by omega)))
  have X3 := Lib.hid (hT.tur hE (fp_ne (by omega)) (fp_ne (by omega)) (fp_ne (by omega)))
  have ht4 := tn_lt hT
  have hq8 : tb < (W.setCell ⟨pb, 23, none⟩ (.pointer (some ⟨tb, 0, none⟩))).heap.size ∧ t1 < (W.setCell ⟨pb, 23, none⟩ (.pointer (some ⟨tb, 0, none⟩))).heap.size ∧ t2 < (W.setCell ⟨pb, 23, none⟩ (.pointer (some ⟨tb, 0, none⟩))).heap.size := ⟨Nat.lt_of_lt_of_le ht4.1 hE.size, Nat.lt_of_lt_of_le ht4.2.1 hE.size, Nat.lt_of_lt_of_le ht4.2.2 hE.size⟩
  clear hT ht4 c8
  have hz8 : w7.heap.size ≤ (W.setCell ⟨pb, 23, none⟩ (.pointer (some ⟨tb, 0, none⟩))).heap.size := E8.out.size
  clear cP fP hp hE hB P7 C7 CT
  generalize W.setCell ⟨pb, 23, none⟩ (.pointer (some ⟨tb, 0, none⟩)) = w8 at *
  go_wp2_with fail
  go_loopw [61] (fun t wr => Tur (fp pb) [1] w8 wr ∧ ((t = .int .i64 0 ∧ w8 = wr) ∨ (t = .int .i64 1 ∧ ∃ u0 v0, wr.heap[pb]? = some (.cells (polA cv [.pointer (some ⟨gb, 0, none⟩), .pointer (some ⟨sa.sb, 0, none⟩), .pointer (some ⟨qb, 0, none⟩), .pointer (some ⟨tb, 0, none⟩), .pointer (some ⟨u0, 0, none⟩), .pointer none, .pointer none, .pointer none, .int .i64 0]) 142 (0, 0)) ∧ BlAt wr u0 v0 (List.replicate (lv * bn) ⟨0, 0, 0⟩) lv bn (c 13) (c 14) (c 4) (c 5) ∧ (w8.heap.size ≤ u0 ∧ w8.heap.size ≤ v0 ∧ u0 < wr.heap.size ∧ v0 < wr.heap.size)) ∨ (t = .int .i64 2 ∧ ∃ u0 v0 u1 v1 n1, wr.heap[pb]? = some (.cells (polA cv [.pointer (some ⟨gb, 0, none⟩), .pointer (some ⟨sa.sb, 0, none⟩), .pointer (some ⟨qb, 0, none⟩), .pointer (some ⟨tb, 0, none⟩), .pointer (some ⟨u0, 0, none⟩), .pointer (some ⟨u1, 0, none⟩), .pointer none, .pointer none, .int .i64 0]) 142 (0, 0)) ∧ BlAt wr u0 v0 (List.replicate (lv * bn) ⟨0, 0, 0⟩) lv bn (c 13) (c 14) (c 4) (c 5) ∧ BlAt wr u1 v1 (List.replicate (lv * bn) ⟨0, 0, 0⟩) lv bn (c 13) (c 14) (c 4) (c 5) ∧ (w8.heap.size ≤ u0 ∧ w8.heap.size ≤ v0 ∧ u0 < n1 ∧ v0 < n1 ∧ n1 ≤ u1 ∧ n1 ≤ v1 ∧ u1 < wr.heap.size ∧ v1 < wr.heap.size)))) (fun t _ => 2 - (intOf t).toNat)
  case atStart => exact ⟨Tur.refl _ _ _, .inl ⟨rfl, rfl⟩⟩
  case round =>
    obtain ⟨hTW, hrel⟩ := hrel
    have CW8 := Lib.hid (hTW.keep C8.out (fp_ne (by omega)))
    have hpb8 : pb < w8.heap.size := (Array.getElem?_eq_some_iff.1 P8.out).1
    have hzW := hTW.size
    have HLW : Hid (∀ w', Tur (fp pb) [1] wr w' → w'.cell? ⟨w.heap.size, 2, none⟩ = some (.int .i64 (lv : Nat)) ∧ w'.cell? ⟨w.heap.size, 3, none⟩ = some (.int .i64 (bn : Nat)) ∧ w'.cell? ⟨w.heap.size, 13, none⟩ = some (.int .i64 (c 13)) ∧ w'.cell? ⟨w.heap.size, 14, none⟩ = some (.int .i64 (c 14)) ∧ w'.cell? ⟨w.heap.size, 4, none⟩ = some (.int .i64 (c 4)) ∧ w'.cell? ⟨w.heap.size, 5, none⟩ = some (.int .i64 (c 5))) := Lib.hid fun w' q => (HL.out _ _ (q.keep CW8.out (fp_ne (by omega)))).2.1
    rcases hrel with ⟨rfl, rfl⟩ | ⟨rfl, u0, v0, hP, hB0, hu⟩ | ⟨rfl, u0, v0, u1, v1, n1, hP, hB0, hB1, hu⟩
    · have PW := P8
      go_wp2_with fail
      refine wp_region_held_drew (S := Tur (fp pb) [1] w8) (by kernel_rfl) (Tur.refl _ _ _).drew (fun hHeld => ?_)
      refine wpAnyH_take (i := 0) (oi := ⟨some 65, _, _, _, _, _⟩) (v := ?_) rfl (by kernel_rfl) (by kernel_rfl) (by kernel_rfl) (fun _ _ _ h => h) (Or.inl ⟨by rfl, ?_⟩) hHeld ?_
      rotate_left
      · intro w hSw
        go_simp
        try with_reducible rfl
      try simp only [Act.put, List.setIfInBounds_toArray, List.set_cons_zero, List.set_cons_succ]
      refine wpAnyH_take (i := 1) (oi := ⟨some 66, _, _, _, _, _⟩) (v := ?_) rfl (by kernel_rfl) (by kernel_rfl) (by kernel_rfl) (fun _ _ _ h => h) (Or.inl ⟨by rfl, ?_⟩) hHeld ?_
      rotate_left
      · intro w hSw
        go_simp
        try with_reducible rfl
      try simp only [Act.put, List.setIfInBounds_toArray, List.set_cons_zero, List.set_cons_succ]
      refine wpAnyH_take (i := 2) (oi := ⟨some 67, _, _, _, _, _⟩) (v := ?_) rfl (by kernel_rfl) (by kernel_rfl) (by kernel_rfl) (fun _ _ _ h => h) (Or.inl ⟨by rfl, ?_⟩) hHeld ?_
      rotate_left
      · intro w hSw
        go_simp
        try with_reducible rfl
      try simp only [Act.put, List.setIfInBounds_toArray, List.set_cons_zero, List.set_cons_succ]
      refine wpAnyH_take (i := 3) (oi := ⟨some 68, _, _, _, _, _⟩) (v := ?_) rfl (by kernel_rfl) (by kernel_rfl) (by kernel_rfl) (fun _ _ _ h => h) (Or.inl ⟨by rfl, ?_⟩) hHeld ?_
      rotate_left
      · intro w hSw
        obtain ⟨k2, k3, k13, k14, k4, k5⟩ := HLW.out w hSw
        go_simp
        try with_reducible rfl
      try simp only [Act.put, List.setIfInBounds_toArray, List.set_cons_zero, List.set_cons_succ]
      refine wpAnyH_take (i := 4) (oi := ⟨some 69, _, _, _, _, _⟩) (v := ?_) rfl (by kernel_rfl) (by kernel_rfl) (by kernel_rfl) (fun _ _ _ h => h) (Or.inl ⟨by rfl, ?_⟩) hHeld ?_
      rotate_left
      · intro w hSw
        go_simp
        try with_reducible rfl
      try simp only [Act.put, List.setIfInBounds_toArray, List.set_cons_zero, List.set_cons_succ]
      refine wpAnyH_take (i := 5) (oi := ⟨some 70, _, _, _, _, _⟩) (v := ?_) rfl (by kernel_rfl) (by kernel_rfl) (by kernel_rfl) (fun _ _ _ h => h) (Or.inl ⟨by rfl, ?_⟩) hHeld ?_
      rotate_left
      · intro w hSw
        obtain ⟨k2, k3, k13, k14, k4, k5⟩ := HLW.out w hSw
        go_simp
        try with_reducible rfl
      try simp only [Act.put, List.setIfInBounds_toArray, List.set_cons_zero, List.set_cons_succ]
      refine wpAnyH_take (i := 6) (oi := ⟨some 71, _, _, _, _, _⟩) (v := ?_) rfl (by kernel_rfl) (by kernel_rfl) (by kernel_rfl) (fun _ _ _ h => h) (Or.inl ⟨by rfl, ?_⟩) hHeld ?_
      rotate_left
      · intro w hSw
        go_simp
        try with_reducible rfl
      try simp only [Act.put, List.setIfInBounds_toArray, List.set_cons_zero, List.set_cons_succ]
      refine wpAnyH_take (i := 7) (oi := ⟨some 72, _, _, _, _, _⟩) (v := ?_) rfl (by kernel_rfl) (by kernel_rfl) (by kernel_rfl) (fun _ _ _ h => h) (Or.inl ⟨by rfl, ?_⟩) hHeld ?_
      rotate_left
      · intro w hSw
        obtain ⟨k2, k3, k13, k14, k4, k5⟩ := HLW.out w hSw
        go_simp
        try with_reducible rfl
      try simp only [Act.put, List.setIfInBounds_toArray, List.set_cons_zero, List.set_cons_succ]
      refine wpAnyH_take (i := 8) (oi := ⟨some 73, _, _, _, _, _⟩) (v := ?_) rfl (by kernel_rfl) (by kernel_rfl) (by kernel_rfl) (fun _ _ _ h => h) (Or.inl ⟨by rfl, ?_⟩) hHeld ?_
      rotate_left
      · intro w hSw
        go_simp
        try with_reducible rfl
      try simp only [Act.put, List.setIfInBounds_toArray, List.set_cons_zero, List.set_cons_succ]
      refine wpAnyH_take (i := 9) (oi := ⟨some 74, _, _, _, _, _⟩) (v := ?_) rfl (by kernel_rfl) (by kernel_rfl) (by kernel_rfl) (fun _ _ _ h => h) (Or.inl ⟨by rfl, ?_⟩) hHeld ?_
      rotate_left
      · intro w hSw
        obtain ⟨k2, k3, k13, k14, k4, k5⟩ := HLW.out w hSw
        go_simp
        try with_reducible rfl
      try simp only [Act.put, List.setIfInBounds_toArray, List.set_cons_zero, List.set_cons_succ]
      refine wpAnyH_take (i := 10) (oi := ⟨some 75, _, _, _, _, _⟩) (v := ?_) rfl (by kernel_rfl) (by kernel_rfl) (by kernel_rfl) (fun _ _ _ h => h) (Or.inl ⟨by rfl, ?_⟩) hHeld ?_
      rotate_left
      · intro w hSw
        go_simp
        try with_reducible rfl
      try simp only [Act.put, List.setIfInBounds_toArray, List.set_cons_zero, List.set_cons_succ]
      refine wpAnyH_take (i := 11) (oi := ⟨some 76, _, _, _, _, _⟩) (v := ?_) rfl (by kernel_rfl) (by kernel_rfl) (by kernel_rfl) (fun _ _ _ h => h) (Or.inl ⟨by rfl, ?_⟩) hHeld ?_
      rotate_left
      · intro w hSw
        obtain ⟨k2, k3, k13, k14, k4, k5⟩ := HLW.out w hSw
        go_simp
        try with_reducible rfl
      try simp only [Act.put, List.setIfInBounds_toArray, List.set_cons_zero, List.set_cons_succ]
      refine wpAnyH_take (i := 12) (oi := ⟨some 77, _, _, _, _, _⟩) (v := ?_) rfl (by kernel_rfl) (by kernel_rfl) (by kernel_rfl) (fun _ _ _ h => h) (Or.inl ⟨by rfl, ?_⟩) hHeld ?_
      rotate_left
      · intro w hSw
        go_simp
        try with_reducible rfl
      try simp only [Act.put, List.setIfInBounds_toArray, List.set_cons_zero, List.set_cons_succ]
      refine wpAnyH_take (i := 13) (oi := ⟨some 78, _, _, _, _, _⟩) (v := ?_) rfl (by kernel_rfl) (by kernel_rfl) (by kernel_rfl) (fun _ _ _ h => h) (Or.inl ⟨by rfl, ?_⟩) hHeld ?_
      rotate_left
      · intro w hSw
        obtain ⟨k2, k3, k13, k14, k4, k5⟩ := HLW.out w hSw
        go_simp
        try with_reducible rfl
      try simp only [Act.put, List.setIfInBounds_toArray, List.set_cons_zero, List.set_cons_succ]
      refine wpAnyH_take (i := 18) (oi := ⟨some 82, _, _, _, _, _⟩) (v := ?_) rfl (by kernel_rfl) (by kernel_rfl) (by kernel_rfl) (fun _ _ _ h => h) (Or.inl ⟨by rfl, ?_⟩) hHeld ?_
      rotate_left
      · intro w hSw
        go_simp
        try with_reducible rfl
      try simp only [Act.put, List.setIfInBounds_toArray, List.set_cons_zero, List.set_cons_succ]
      refine wpAnyH_take (i := 19) (oi := ⟨some 83, _, _, _, _, _⟩) (v := ?_) rfl (by kernel_rfl) (by kernel_rfl) (by kernel_rfl) (fun _ _ _ h => h) (Or.inl ⟨by rfl, ?_⟩) hHeld ?_
      rotate_left
      · intro w hSw
        go_simp
        try with_reducible rfl
      try simp only [Act.put, List.setIfInBounds_toArray, List.set_cons_zero, List.set_cons_succ]
      refine wpAnyH_ready (rs := [14]) (by kernel_rfl) (by simp) ?_
      refine AllReadyH.cons rfl (fun K hK => ?_) AllReadyH.nil
      go_simp
      go_wp2_with (go_at_call 63; go_must (refine (CB.out _).mono ?_; rintro e w14 ⟨rfl, hb, hB⟩))
      refine hK.out _ _ (hHeld.trans (Tur.of_below hB)) (fun hHeld => ?_)
      clear hK K
      refine wpAnyH_take (i := 15) (oi := ⟨some 64, _, _, _, _, _⟩) (v := ?_) rfl (by kernel_rfl) (by kernel_rfl) (by kernel_rfl) (fun _ _ _ h => h) (Or.inl ⟨by rfl, ?_⟩) hHeld ?_
      rotate_left
      · intro w hSw
        go_simp
        try with_reducible rfl
      try simp only [Act.put, List.setIfInBounds_toArray, List.set_cons_zero, List.set_cons_succ]
      refine wpAnyH_take (i := 16) (oi := ⟨some 80, _, _, _, _, _⟩) (v := ?_) rfl (by kernel_rfl) (by kernel_rfl) (by kernel_rfl) (fun _ _ _ h => h) (Or.inl ⟨by rfl, ?_⟩) hHeld ?_
      rotate_left
      · intro w hSw
        go_simp
        try with_reducible rfl
      try simp only [Act.put, List.setIfInBounds_toArray, List.set_cons_zero, List.set_cons_succ]
      refine wpAnyH_take (i := 17) (oi := ⟨some 81, _, _, _, _, _⟩) (v := ?_) rfl (by kernel_rfl) (by kernel_rfl) (by kernel_rfl) (fun _ _ _ h => h) (Or.inl ⟨by rfl, ?_⟩) hHeld ?_
      rotate_left
      · intro w hSw
        go_simp
        try with_reducible rfl
      try simp only [Act.put, List.setIfInBounds_toArray, List.set_cons_zero, List.set_cons_succ]
      refine wpAnyH_take (i := 20) (oi := ⟨some 84, _, _, _, _, _⟩) (v := ?_) rfl (by kernel_rfl) (by kernel_rfl) (by kernel_rfl) (fun _ _ _ h => h) (Or.inl ⟨by rfl, ?_⟩) hHeld ?_
      rotate_left
      · intro w hSw
        go_simp
        try with_reducible rfl
      try simp only [Act.put, List.setIfInBounds_toArray, List.set_cons_zero, List.set_cons_succ]
      have PB := keep_block hB (show w8.drew.heap[pb]? = _ from PW.out)
      have cP := par_cell PB h20.out 24 4 rfl _ rfl
      have fP : w14.frozen? ⟨pb, 24, none⟩ = false := frozen_of_row _ _ _ _ _ PB
      obtain ⟨hp, hE⟩ := par_set PB h20.out 24 4 rfl (.pointer (some ⟨w8.heap.size + 1, 0, none⟩))
      refine wpAnyH_ready (rs := [21]) (by kernel_rfl) (by simp) ?_
      refine AllReadyH.cons rfl (fun K hK => ?_) AllReadyH.nil
      go_simp
      refine hK.out _ _ (hHeld.trans hE) (fun hHeld => ?_)
      clear hK K
      refine wpAnyH_done (by kernel_rfl) ?_ _
      have hub : w8.heap.size + 1 < w14.heap.size := (Array.getElem?_eq_some_iff.1 hb.ptr).1
      have hbb := hb.tur hE (fp_ne (show w8.heap.size + 1 ≠ pb by omega)) (fp_ne (show w8.heap.size ≠ pb by omega))
      have hzz := hE.size
      generalize w14.setCell ⟨pb, 24, none⟩ (.pointer (some ⟨w8.heap.size + 1, 0, none⟩)) = w15 at *
      go_wp2
      go_roundw
      case rel => exact ⟨hHeld, .inr (.inl ⟨by go_num, w8.heap.size + 1, w8.heap.size, hp, hbb, by omega, by omega, by omega, by omega⟩)⟩
      case measure => simp [intOf]
    · have PW := Lib.hid hP
      have HB0 := Lib.hid hB0
      clear hP hB0
      go_wp2_with fail
      refine wp_region_held_drew (S := Tur (fp pb) [1] wr) (by kernel_rfl) (Tur.refl _ _ _).drew (fun hHeld => ?_)
      refine wpAnyH_take (i := 0) (oi := ⟨some 65, _, _, _, _, _⟩) (v := ?_) rfl (by kernel_rfl) (by kernel_rfl) (by kernel_rfl) (fun _ _ _ h => h) (Or.inl ⟨by rfl, ?_⟩) hHeld ?_
      rotate_left
      · intro w hSw
        go_simp
        try with_reducible rfl
      try simp only [Act.put, List.setIfInBounds_toArray, List.set_cons_zero, List.set_cons_succ]
      refine wpAnyH_take (i := 1) (oi := ⟨some 66, _, _, _, _, _⟩) (v := ?_) rfl (by kernel_rfl) (by kernel_rfl) (by kernel_rfl) (fun _ _ _ h => h) (Or.inl ⟨by rfl, ?_⟩) hHeld ?_
      rotate_left
      · intro w hSw
        go_simp
        try with_reducible rfl
      try simp only [Act.put, List.setIfInBounds_toArray, List.set_cons_zero, List.set_cons_succ]
      refine wpAnyH_take (i := 2) (oi := ⟨some 67, _, _, _, _, _⟩) (v := ?_) rfl (by kernel_rfl) (by kernel_rfl) (by kernel_rfl) (fun _ _ _ h => h) (Or.inl ⟨by rfl, ?_⟩) hHeld ?_
      rotate_left
      · intro w hSw
        go_simp
        try with_reducible rfl
      try simp only [Act.put, List.setIfInBounds_toArray, List.set_cons_zero, List.set_cons_succ]
      refine wpAnyH_take (i := 3) (oi := ⟨some 68, _, _, _, _, _⟩) (v := ?_) rfl (by kernel_rfl) (by kernel_rfl) (by kernel_rfl) (fun _ _ _ h => h) (Or.inl ⟨by rfl, ?_⟩) hHeld ?_
      rotate_left
      · intro w hSw
        obtain ⟨k2, k3, k13, k14, k4, k5⟩ := HLW.out w hSw
        go_simp
        try with_reducible rfl
      try simp only [Act.put, List.setIfInBounds_toArray, List.set_cons_zero, List.set_cons_succ]
      refine wpAnyH_take (i := 4) (oi := ⟨some 69, _, _, _, _, _⟩) (v := ?_) rfl (by kernel_rfl) (by kernel_rfl) (by kernel_rfl) (fun _ _ _ h => h) (Or.inl ⟨by rfl, ?_⟩) hHeld ?_
      rotate_left
      · intro w hSw
        go_simp
        try with_reducible rfl
      try simp only [Act.put, List.setIfInBounds_toArray, List.set_cons_zero, List.set_cons_succ]
      refine wpAnyH_take (i := 5) (oi := ⟨some 70, _, _, _, _, _⟩) (v := ?_) rfl (by kernel_rfl) (by kernel_rfl) (by kernel_rfl) (fun _ _ _ h => h) (Or.inl ⟨by rfl, ?_⟩) hHeld ?_
      rotate_left
      · intro w hSw
        obtain ⟨k2, k3, k13, k14, k4, k5⟩ := HLW.out w hSw
        go_simp
        try with_reducible rfl
      try simp only [Act.put, List.setIfInBounds_toArray, List.set_cons_zero, List.set_cons_succ]
      refine wpAnyH_take (i := 6) (oi := ⟨some 71, _, _, _, _, _⟩) (v := ?_) rfl (by kernel_rfl) (by kernel_rfl) (by kernel_rfl) (fun _ _ _ h => h) (Or.inl ⟨by rfl, ?_⟩) hHeld ?_
      rotate_left
      · intro w hSw
        go_simp
        try with_reducible rfl
      try simp only [Act.put, List.setIfInBounds_toArray, List.set_cons_zero, List.set_cons_succ]
      refine wpAnyH_take (i := 7) (oi := ⟨some 72, _, _, _, _, _⟩) (v := ?_) rfl (by kernel_rfl) (by kernel_rfl) (by kernel_rfl) (fun _ _ _ h => h) (Or.inl ⟨by rfl, ?_⟩) hHeld ?_
      rotate_left
      · intro w hSw
        obtain ⟨k2, k3, k13, k14, k4, k5⟩ := HLW.out w hSw
        go_simp
        try with_reducible rfl
      try simp only [Act.put, List.setIfInBounds_toArray, List.set_cons_zero, List.set_cons_succ]
      refine wpAnyH_take (i := 8) (oi := ⟨some 73, _, _, _, _, _⟩) (v := ?_) rfl (by kernel_rfl) (by kernel_rfl) (by kernel_rfl) (fun _ _ _ h => h) (Or.inl ⟨by rfl, ?_⟩) hHeld ?_
      rotate_left
      · intro w hSw
        go_simp
        try with_reducible rfl
      try simp only [Act.put, List.setIfInBounds_toArray, List.set_cons_zero, List.set_cons_succ]
      refine wpAnyH_take (i := 9) (oi := ⟨some 74, _, _, _, _, _⟩) (v := ?_) rfl (by kernel_rfl) (by kernel_rfl) (by kernel_rfl) (fun _ _ _ h => h) (Or.inl ⟨by rfl, ?_⟩) hHeld ?_
      rotate_left
      · intro w hSw
        obtain ⟨k2, k3, k13, k14, k4, k5⟩ := HLW.out w hSw
        go_simp
        try with_reducible rfl
      try simp only [Act.put, List.setIfInBounds_toArray, List.set_cons_zero, List.set_cons_succ]
      refine wpAnyH_take (i := 10) (oi := ⟨some 75, _, _, _, _, _⟩) (v := ?_) rfl (by kernel_rfl) (by kernel_rfl) (by kernel_rfl) (fun _ _ _ h => h) (Or.inl ⟨by rfl, ?_⟩) hHeld ?_
      rotate_left
      · intro w hSw
        go_simp
        try with_reducible rfl
      try simp only [Act.put, List.setIfInBounds_toArray, List.set_cons_zero, List.set_cons_succ]
      refine wpAnyH_take (i := 11) (oi := ⟨some 76, _, _, _, _, _⟩) (v := ?_) rfl (by kernel_rfl) (by kernel_rfl) (by kernel_rfl) (fun _ _ _ h => h) (Or.inl ⟨by rfl, ?_⟩) hHeld ?_
      rotate_left
      · intro w hSw
        obtain ⟨k2, k3, k13, k14, k4, k5⟩ := HLW.out w hSw
        go_simp
        try with_reducible rfl
      try simp only [Act.put, List.setIfInBounds_toArray, List.set_cons_zero, List.set_cons_succ]
      refine wpAnyH_take (i := 12) (oi := ⟨some 77, _, _, _, _, _⟩) (v := ?_) rfl (by kernel_rfl) (by kernel_rfl) (by kernel_rfl) (fun _ _ _ h => h) (Or.inl ⟨by rfl, ?_⟩) hHeld ?_
      rotate_left
      · intro w hSw
        go_simp
        try with_reducible rfl
      try simp only [Act.put, List.setIfInBounds_toArray, List.set_cons_zero, List.set_cons_succ]
      refine wpAnyH_take (i := 13) (oi := ⟨some 78, _, _, _, _, _⟩) (v := ?_) rfl (by kernel_rfl) (by kernel_rfl) (by kernel_rfl) (fun _ _ _ h => h) (Or.inl ⟨by rfl, ?_⟩) hHeld ?_
      rotate_left
      · intro w hSw
        obtain ⟨k2, k3, k13, k14, k4, k5⟩ := HLW.out w hSw
        go_simp
        try with_reducible rfl
      try simp only [Act.put, List.setIfInBounds_toArray, List.set_cons_zero, List.set_cons_succ]
      refine wpAnyH_take (i := 18) (oi := ⟨some 82, _, _, _, _, _⟩) (v := ?_) rfl (by kernel_rfl) (by kernel_rfl) (by kernel_rfl) (fun _ _ _ h => h) (Or.inl ⟨by rfl, ?_⟩) hHeld ?_
      rotate_left
      · intro w hSw
        go_simp
        try with_reducible rfl
      try simp only [Act.put, List.setIfInBounds_toArray, List.set_cons_zero, List.set_cons_succ]
      refine wpAnyH_take (i := 19) (oi := ⟨some 83, _, _, _, _, _⟩) (v := ?_) rfl (by kernel_rfl) (by kernel_rfl) (by kernel_rfl) (fun _ _ _ h => h) (Or.inl ⟨by rfl, ?_⟩) hHeld ?_
      rotate_left
      · intro w hSw
        go_simp
        try with_reducible rfl
      try simp only [Act.put, List.setIfInBounds_toArray, List.set_cons_zero, List.set_cons_succ]
      refine wpAnyH_ready (rs := [14]) (by kernel_rfl) (by simp) ?_
      refine AllReadyH.cons rfl (fun K hK => ?_) AllReadyH.nil
      go_simp
      go_wp2_with (go_at_call 63; go_must (refine (CB.out _).mono ?_; rintro e w14 ⟨rfl, hb, hB⟩))
      refine hK.out _ _ (hHeld.trans (Tur.of_below hB)) (fun hHeld => ?_)
      clear hK K
      refine wpAnyH_take (i := 15) (oi := ⟨some 64, _, _, _, _, _⟩) (v := ?_) rfl (by kernel_rfl) (by kernel_rfl) (by kernel_rfl) (fun _ _ _ h => h) (Or.inl ⟨by rfl, ?_⟩) hHeld ?_
      rotate_left
      · intro w hSw
        go_simp
        try with_reducible rfl
      try simp only [Act.put, List.setIfInBounds_toArray, List.set_cons_zero, List.set_cons_succ]
      refine wpAnyH_take (i := 16) (oi := ⟨some 80, _, _, _, _, _⟩) (v := ?_) rfl (by kernel_rfl) (by kernel_rfl) (by kernel_rfl) (fun _ _ _ h => h) (Or.inl ⟨by rfl, ?_⟩) hHeld ?_
      rotate_left
      · intro w hSw
        go_simp
        try with_reducible rfl
      try simp only [Act.put, List.setIfInBounds_toArray, List.set_cons_zero, List.set_cons_succ]
      refine wpAnyH_take (i := 17) (oi := ⟨some 81, _, _, _, _, _⟩) (v := ?_) rfl (by kernel_rfl) (by kernel_rfl) (by kernel_rfl) (fun _ _ _ h => h) (Or.inl ⟨by rfl, ?_⟩) hHeld ?_
      rotate_left
      · intro w hSw
        go_simp
        try with_reducible rfl
      try simp only [Act.put, List.setIfInBounds_toArray, List.set_cons_zero, List.set_cons_succ]
      refine wpAnyH_take (i := 20) (oi := ⟨some 84, _, _, _, _, _⟩) (v := ?_) rfl (by kernel_rfl) (by kernel_rfl) (by kernel_rfl) (fun _ _ _ h => h) (Or.inl ⟨by rfl, ?_⟩) hHeld ?_
      rotate_left
      · intro w hSw
        go_simp
        try with_reducible rfl
      try simp only [Act.put, List.setIfInBounds_toArray, List.set_cons_zero, List.set_cons_succ]
      have PB := keep_block hB (show wr.drew.heap[pb]? = _ from PW.out)
      have cP := par_cell PB h20.out 25 5 rfl _ rfl
      have fP : w14.frozen? ⟨pb, 25, none⟩ = false := frozen_of_row _ _ _ _ _ PB
      obtain ⟨hp, hE⟩ := par_set PB h20.out 25 5 rfl (.pointer (some ⟨wr.heap.size + 1, 0, none⟩))
      refine wpAnyH_ready (rs := [21]) (by kernel_rfl) (by simp) ?_
      refine AllReadyH.cons rfl (fun K hK => ?_) AllReadyH.nil
      go_simp
      refine hK.out _ _ (hHeld.trans hE) (fun hHeld => ?_)
      clear hK K
      refine wpAnyH_done (by kernel_rfl) ?_ _
      have hub : wr.heap.size + 1 < w14.heap.size := (Array.getElem?_eq_some_iff.1 hb.ptr).1
      have hbb := hb.tur hE (fp_ne (show wr.heap.size + 1 ≠ pb by omega)) (fp_ne (show wr.heap.size ≠ pb by omega))
      have hzz := hE.size
      generalize w14.setCell ⟨pb, 25, none⟩ (.pointer (some ⟨wr.heap.size + 1, 0, none⟩)) = w15 at *
      go_wp2
      go_roundw
      case rel => exact ⟨hTW.trans hHeld, .inr (.inr ⟨by go_num, u0, v0, wr.heap.size + 1, wr.heap.size, wr.heap.size, hp, HB0.out.tur hHeld (fp_ne (by omega)) (fp_ne (by omega)), hbb, by omega, by omega, by omega, by omega, by omega, by omega, by omega, by omega⟩)⟩
      case measure => simp [intOf]
    · have P9 := Lib.hid hP
      have HB0 := Lib.hid hB0
      have HB1 := Lib.hid hB1
      have C9 := CW8
      have R9 := Lib.hid hTW
      obtain ⟨hu1, hu2, hu3, hu4, hu5, hu6, hu7, hu8⟩ := hu
      clear hP hB0 hB1 CW8 HLW hTW
      generalize wr = w9 at *
      obtain ⟨c6, c15, c16, _⟩ := (HL.out _ _ C9.out).2.2
      go_wp2_with fail
      refine (CW.out _).mono ?_
      rintro e W ⟨wb, ws, wr, rfl, ⟨hw3, hw4, hw5⟩, hW, hB⟩
      have cP := par_cell (keep_block hB P9.out) h20.out 26 6 rfl _ rfl
      have fP : W.frozen? ⟨pb, 26, none⟩ = false := frozen_of_row _ _ _ _ _ (keep_block hB P9.out)
      go_upto_region 14 with (fail)
      obtain ⟨hp, hE⟩ := par_set (keep_block hB P9.out) h20.out 26 6 rfl (.pointer (some ⟨wb, 0, none⟩))
      have E10 : Hid (Tur (fp pb) [1] w9 (W.setCell ⟨pb, 26, none⟩ (.pointer (some ⟨wb, 0, none⟩)))) := Lib.hid ((Tur.of_below hB).trans hE)
      have P10 := Lib.hid hp
      have C10 := Lib.hid (E10.out.keep C9.out (fp_ne (by omega)))
      have X4 := Lib.hid (hW.tur hE (fp_ne (by omega)) (fp_ne (by omega)) (fp_ne (by omega)))
      have hw6 := wi_lt hW
      have hq10 : wb < (W.setCell ⟨pb, 26, none⟩ (.pointer (some ⟨wb, 0, none⟩))).heap.size ∧ ws < (W.setCell ⟨pb, 26, none⟩ (.pointer (some ⟨wb, 0, none⟩))).heap.size ∧ wr < (W.setCell ⟨pb, 26, none⟩ (.pointer (some ⟨wb, 0, none⟩))).heap.size := ⟨Nat.lt_of_lt_of_le hw6.1 hE.size, Nat.lt_of_lt_of_le hw6.2.1 hE.size, Nat.lt_of_lt_of_le hw6.2.2 hE.size⟩
      clear hW hw6 c6 c15 c16
      have hz10 : w9.heap.size ≤ (W.setCell ⟨pb, 26, none⟩ (.pointer (some ⟨wb, 0, none⟩))).heap.size := E10.out.size
      clear cP fP hp hE hB CW
      generalize W.setCell ⟨pb, 26, none⟩ (.pointer (some ⟨wb, 0, none⟩)) = w10 at *
      obtain ⟨_, _, _, c7, c17, c18, c19⟩ := (HL.out _ _ C10.out).2.2
      go_wp2_with fail
      refine (CX.out _).mono ?_
      rintro e W ⟨xb, xt, xr, rfl, ⟨hx1, hx2, hx3⟩, hX, hB⟩
      have cP := par_cell (keep_block hB P10.out) h20.out 27 7 rfl _ rfl
      have fP : W.frozen? ⟨pb, 27, none⟩ = false := frozen_of_row _ _ _ _ _ (keep_block hB P10.out)
      go_upto_region 15 with (fail)
      obtain ⟨hp, hE⟩ := par_set (keep_block hB P10.out) h20.out 27 7 rfl (.pointer (some ⟨xb, 0, none⟩))
      have E11 : Hid (Tur (fp pb) [1] w10 (W.setCell ⟨pb, 27, none⟩ (.pointer (some ⟨xb, 0, none⟩)))) := Lib.hid ((Tur.of_below hB).trans hE)
      have P11 := Lib.hid hp
      have C11 := Lib.hid (E11.out.keep C10.out (fp_ne (by omega)))
      have X5 := Lib.hid (hX.tur hE (fp_ne (by omega)) (fp_ne (by omega)) (fp_ne (by omega)))
      have hx4 := bx_lt hX
      have hq11 : xb < (W.setCell ⟨pb, 27, none⟩ (.pointer (some ⟨xb, 0, none⟩))).heap.size ∧ xt < (W.setCell ⟨pb, 27, none⟩ (.pointer (some ⟨xb, 0, none⟩))).heap.size ∧ xr < (W.setCell ⟨pb, 27, none⟩ (.pointer (some ⟨xb, 0, none⟩))).heap.size := ⟨Nat.lt_of_lt_of_le hx4.1 hE.size, Nat.lt_of_lt_of_le hx4.2.1 hE.size, Nat.lt_of_lt_of_le hx4.2.2 hE.size⟩
      clear hX hx4 c7 c17 c18 c19
      have hz11 : w10.heap.size ≤ (W.setCell ⟨pb, 27, none⟩ (.pointer (some ⟨xb, 0, none⟩))).heap.size := E11.out.size
      clear cP fP hp hE hB CX
      generalize W.setCell ⟨pb, 27, none⟩ (.pointer (some ⟨xb, 0, none⟩)) = w11 at *
      have r10 := Lib.hid E11.out
      have r9 := Lib.hid (E10.out.trans r10.out)
      have r8 := Lib.hid (R9.out.trans r9.out)
      have r7 := Lib.hid (E8.out.trans r8.out)
      have r6 := Lib.hid (E7.out.trans r7.out)
      have r5 := Lib.hid (E6.out.trans r6.out)
      have r4 := Lib.hid (E5.out.trans r5.out)
      go_wp2
      obtain ⟨n0, n1', n2, n3, n6, n7, n8⟩ := HN.out
      have e0 : (c 0).toNat = nb := by omega
      have e1 : (c 1).toNat = pk := by omega
      have e2 : (c 2).toNat = lv := by omega
      have e3 : (c 3).toNat = bn := by omega
      have e6 : (c 6).toNat = sl := by omega
      have e7 : (c 7).toNat = rm := by omega
      have hq6' := HQ6.out
      have o : OrdR pb w4.heap.size w5.heap.size w6.heap.size w7.heap.size w8.heap.size n1 w9.heap.size w10.heap.size w11.heap.size := ⟨hS4, by omega, by omega, by omega, by omega, by omega, by omega, by omega, by omega⟩
      refine HQ.out _ _ ⟨⟨pb, gb, sa, qb, qr, tb, t1, t2, u0, v0, u1, v1, wb, ws, wr, xb, xt, xr, tagR pb w4.heap.size w5.heap.size w6.heap.size w7.heap.size w8.heap.size n1 w9.heap.size w10.heap.size w11.heap.size, w11.heap.size⟩, G, rfl, hpb0, ?_, rfl, fun k hk => tagL (k := k) o (by omega), ?_⟩
      · rw [e0, e2, e3, e7]
        refine ⟨P11.out, ?_, ?_, ?_, ?_, ?_, ?_, ?_, ?_, ?_, ⟨HV.out, HR.out⟩, Nat.le_refl _, fun b v hb => by cases hb⟩
        · show GnAt w11 gb (c 0).toNat kv G
          rw [e0]
          exact X0.out.tur r5.out (fp_ne (by omega))
        · show Sto w11 sa (List.replicate (2 * nb + 1) []) (c 1).toNat
          rw [e1, n8]
          exact X1.out.tur r6.out (fun x hx => fp_ne (by have := hq6' x hx; omega))
        · show QU.QAt w11 qb qr (c 9) (c 10) 0 (List.replicate (2 * nb + 1) 0)
          rw [n8]
          exact X2.out.tur r7.out (fp_ne (by omega)) (fp_ne (by omega))
        · show TnAt w11 tb t1 t2 (c 8) (List.replicate (2 * nb + 1) ⟨false, false, 0⟩) []
          rw [n8]
          exact X3.out.tur r8.out (fp_ne (by omega)) (fp_ne (by omega)) (fp_ne (by omega))
        · show BlAt w11 u0 v0 (List.replicate (lv * bn) ⟨0, 0, 0⟩) (c 2).toNat (c 3).toNat (c 13) (c 14) (c 4) (c 5)
          rw [e2, e3]
          exact HB0.out.tur r9.out (fp_ne (by omega)) (fp_ne (by omega))
        · show BlAt w11 u1 v1 (List.replicate (lv * bn) ⟨0, 0, 0⟩) (c 2).toNat (c 3).toNat (c 13) (c 14) (c 4) (c 5)
          rw [e2, e3]
          exact HB1.out.tur r9.out (fp_ne (by omega)) (fp_ne (by omega))
        · show WiAt w11 wb ws wr [] (c 6).toNat 0 (c 15) (c 16) 0
          rw [e6]
          exact X4.out.tur r10.out (fp_ne (by omega)) (fp_ne (by omega)) (fp_ne (by omega))
        · show BxAt w11 xb xt xr (List.replicate (2 * rm) plc0) (c 7).toNat 0 (c 17) (c 18) (c 19)
          rw [e7]
          exact X5.out
        · exact ⟨tag1, tag2 (k := gb) o (by omega) (by omega), fun x hx => tag3 (k := x) o (hq6' x hx).1 (hq6' x hx).2, ⟨tag4 (k := qb) o (by omega) (by omega), tag4 (k := qr) o (by omega) (by omega)⟩, ⟨tag5 (k := tb) o (by omega) (by omega), tag5 (k := t1) o (by omega) (by omega), tag5 (k := t2) o (by omega) (by omega)⟩, ⟨tag6 (k := u0) o (by omega) (by omega), tag6 (k := v0) o (by omega) (by omega)⟩, ⟨tag7 (k := u1) o (by omega) (by omega), tag7 (k := v1) o (by omega) (by omega)⟩, ⟨tag8 (k := wb) o (by omega) (by omega), tag8 (k := ws) o (by omega) (by omega), tag8 (k := wr) o (by omega) (by omega)⟩, ⟨tag9 (k := xb) o (by omega) (by omega), tag9 (k := xt) o (by omega) (by omega), tag9 (k := xr) o (by omega) (by omega)⟩, fun k hk => tag0 (k := k) o hk⟩
      · have b := B4.out
        have r := r4.out
        exact ⟨r.os.trans b.os, r.tape.trans b.tape, r.output.trans b.output, Nat.le_trans b.size r.size, fun k hk => (r.block k (Nat.lt_of_lt_of_le hk b.size) (fp_ne (by omega))).trans (b.block k hk)⟩
end Go.Proofs.YtpanmfdbdgecaaaGreat.C

namespace Go.Proofs.YtpanmfdbdgecaaaGreat.C
open Go.RowKit
set_option linter.unusedVariables false
/-- An engine's own block: where its parts lie, the clock, what is counted. -/
structure EnAt (w : World) (eb sb pb : Nat) (now : Int) (N : Nat → Int) : Prop where
  ptr : ∃ E : Array Value, w.heap[eb]? = some (.cells E 115 (0, 0)) ∧ E.size = 34 ∧ E[0]? = some (.pointer (some ⟨sb, 0, none⟩)) ∧ E[1]? = some (.pointer (some ⟨pb, 0, none⟩)) ∧ E[2]? = some (.int .i64 now) ∧ ∀ j, j < 31 → E[3 + j]? = some (.int .i64 (N j))
def upN (N : Nat → Int) (j : Nat) (v : Int) : Nat → Int := fun k => if k = j then v else N k
section
variable {w w' : World} {eb sb pb : Nat} {now : Int} {N : Nat → Int} {f : Nat → Nat} {ks : List Nat}
theorem EnAt.tur (h : EnAt w eb sb pb now N) (p : Tur f ks w w') (h1 : f eb ∉ ks) : EnAt w' eb sb pb now N := by
  obtain ⟨E, e1, e2⟩ := h.ptr
  exact ⟨E, p.keep e1 h1, e2⟩
theorem EnAt.cells (h : EnAt w eb sb pb now N) : w.cell? ⟨eb, 0, none⟩ = some (.pointer (some ⟨sb, 0, none⟩)) ∧ w.cell? ⟨eb, 1, none⟩ = some (.pointer (some ⟨pb, 0, none⟩)) ∧ w.cell? ⟨eb, 2, none⟩ = some (.int .i64 now) ∧ (∀ j, w.frozen? ⟨eb, j, none⟩ = false) := by
  obtain ⟨E, e1, e2, e3, e4, e5, e6⟩ := h.ptr
  exact ⟨cells_of_row e1 0 _ e3, cells_of_row e1 1 _ e4, cells_of_row e1 2 _ e5, fun j => frozen_of_row _ _ _ _ _ e1⟩
theorem EnAt.n (h : EnAt w eb sb pb now N) (j : Nat) (hj : j < 31) : w.cell? ⟨eb, 3 + j, none⟩ = some (.int .i64 (N j)) := by
  obtain ⟨E, e1, e2, e3, e4, e5, e6⟩ := h.ptr
  exact cells_of_row e1 _ _ (e6 j hj)
theorem EnAt.setN (h : EnAt w eb sb pb now N) (k : Nat) (hk : k < 31) (t : Int) : EnAt (w.setCell ⟨eb, 3 + k, none⟩ (.int .i64 t)) eb sb pb now (upN N k t) := by
  obtain ⟨E, e1, e2, e3, e4, e5, e6⟩ := h.ptr
  refine ⟨E.setIfInBounds (3 + k) (.int .i64 t), heap_setCell_same _ _ (3 + k) _ _ _ e1, by simpa using e2, ?_, ?_, ?_, fun j hj => ?_⟩
  · rw [Array.getElem?_setIfInBounds_ne (by omega)]; exact e3
  · rw [Array.getElem?_setIfInBounds_ne (by omega)]; exact e4
  · rw [Array.getElem?_setIfInBounds_ne (by omega)]; exact e5
  · unfold upN
    by_cases hjk : j = k
    · rw [if_pos hjk, hjk, Array.getElem?_setIfInBounds_self_of_lt (by omega)]
    · rw [if_neg hjk, Array.getElem?_setIfInBounds_ne (by omega)]
      exact e6 j hj
theorem PaAt.tur {pc : Nat} {ns nx : Int} (h : PaAt w pc ns nx) (p : Tur f ks w w') (h1 : f pc ∉ ks) : PaAt w' pc ns nx := p.keep h h1
end
/-- Other kinds of blocks, where they were not among the police's. -/
def PAd.re (A : PAd) (tg : Nat → Nat) (lim : Nat) : PAd := { A with tg := tg, lim := lim }
theorem PAd.Ok.re {A : PAd} (o : A.Ok) {tg : Nat → Nat} {lim : Nat} (h : ∀ k, k < A.lim → tg k = A.tg k) (hi : ∀ k, lim ≤ k → tg k = 0) : (A.re tg lim).Ok := by
  have n : ∀ {x k : Nat}, A.tg x = k → 1 ≤ k → (A.re tg lim).tg x = k := fun {x k} e hk => (h x (o.lt e hk)).trans e
  exact ⟨n o.pb (by omega), n o.gb (by omega), fun x hx => n (o.st x hx) (by omega), ⟨n o.q.1 (by omega), n o.q.2 (by omega)⟩, ⟨n o.t.1 (by omega), n o.t.2.1 (by omega), n o.t.2.2 (by omega)⟩, ⟨n o.b0.1 (by omega), n o.b0.2 (by omega)⟩, ⟨n o.b1.1 (by omega), n o.b1.2 (by omega)⟩, ⟨n o.w.1 (by omega), n o.w.2.1 (by omega), n o.w.2.2 (by omega)⟩, ⟨n o.x.1 (by omega), n o.x.2.1 (by omega), n o.x.2.2 (by omega)⟩, hi⟩
theorem Pol.re {w : World} {A : PAd} {F : PCf} {S : PSt} (p : Pol w A F S) {tg : Nat → Nat} {lim : Nat} (h : ∀ k, k < A.lim → tg k = A.tg k) (hi : ∀ k, lim ≤ k → tg k = 0) (hl : lim ≤ w.heap.size) : Pol w (A.re tg lim) F S :=
  ⟨p.ptr, p.gn, p.sto, p.q, p.tn, p.b0, p.b1, p.wi, p.bx, p.ok.re h hi, p.fok, hl, fun b v hb => ⟨(p.tk b v hb).1, (h b (p.ok.lt (p.tk b v hb).2 (by omega))).trans (p.tk b v hb).2⟩⟩
/-- An engine in memory. -/
structure EAd where
  A : PAd
  eb : Nat
  sb : Nat
  pc : Nat
structure Eng (w : World) (a : EAd) (F : PCf) (S : PSt) (now : Int) (N : Nat → Int) (nx : Int) : Prop where
  pol : Pol w a.A F S
  en : EnAt w a.eb a.sb a.A.pb now N
  sch : w.heap[a.sb]? = some (.cells #[.pointer (some ⟨a.A.pb, 0, none⟩), .pointer (some ⟨a.pc, 0, none⟩)] 132 (0, 0))
  pac : PaAt w a.pc (F.c 11) nx
  tags : a.A.tg a.eb = 10 ∧ a.A.tg a.sb = 11 ∧ a.A.tg a.pc = 12
theorem sched_police (sb : Nat) (v u : Value) (w : World) (h : w.heap[sb]? = some (.cells #[v, u] 132 (0, 0))) : Calls Tryz.prog 19 #[.pointer (some ⟨sb, 0, none⟩)] w fun e w' => e = .returned v ∧ w' = w := by
  have c0 := cells_of_row h 0 _ rfl
  go_enter Tryz.func19, Tryz.ntmps19
  go_wp2
  go_ret
  exact ⟨rfl, rfl⟩
theorem keys_load {w : World} {b : Nat} {kv : Array Value} (hk : kv.size = 16) (hb : w.heap[b]? = some (.cells kv 22 (0, 0))) : (Instr.loadAt 22 (.pointer (some ⟨b, 0, none⟩))).run Tryz.prog w = .ok (.agg kv) w := box_load (t := 22) hb _ Tryz.underlying22 rfl (by rw [hk]; exact key_size)
set_option maxRecDepth 100000 in
set_option maxHeartbeats 4000000 in
theorem sched_new (cv : Array Value) (c : Nat → Int) (kv : Array Value) (w : World) (hv : Cfg cv c) (hr : RightC c) (hk : kv.size = 16) :
    Calls Tryz.prog 17 #[.agg cv, .agg kv] w fun e w' => ∃ A G sb pc, e = .returned (.tuple #[.pointer (some ⟨sb, 0, none⟩), .int .i64 0]) ∧ w.heap.size ≤ A.pb ∧ Pol w' A ⟨cv, c, kv, G⟩ (pst0 (c 0).toNat (c 2).toNat (c 3).toNat (c 7).toNat) ∧ (A.lim ≤ pc ∧ pc < sb ∧ sb < w'.heap.size) ∧ w'.heap[sb]? = some (.cells #[.pointer (some ⟨A.pb, 0, none⟩), .pointer (some ⟨pc, 0, none⟩)] 132 (0, 0)) ∧ PaAt w' pc (c 11) 0 ∧ (∀ k, k < w.heap.size → A.tg k = 0) ∧ Below w.heap.size w w' := by
  have CP := Lib.hid (fun w' => police_new cv c kv w' hv hr hk)
  have CA := Lib.hid (fun w' => pace_new (c 11) w' hr.ns.1 hr.ns.2)
  have HV := Lib.hid hv
  have HK := Lib.hid hk
  clear hv hr hk
  refine calls_hide fun Q HQ => ?_
  go_enter Tryz.func17, Tryz.ntmps17
  go_upto_region 1 with (first | ((with_reducible refine arm_box 2 0 26 cv ?_ ?_); rfl; intro w1 HB1 HX1 HS1) | ((with_reducible refine arm_box 3 1 22 kv ?_ ?_); rfl; intro w2 HB2 HX2 HS2))
  have C2 := Lib.hid (keep_block HB2.out HX1.out)
  have B2 := Lib.hid (HB1.out.trans (HB2.out.mono HB1.out.size))
  have hld := cfg_load C2.out HV.out
  have hlk := keys_load HK.out HX2.out
  generalize w1.heap.size = kb at *
  clear HB1 HX1 HS1 HB2 HS2
  go_wp2_with (first | ((with_reducible refine arm_loadg 11 2 26 (.pointer (some ⟨w.heap.size, 0, none⟩)) (.agg cv) hld ?_ ?_ ?_); rfl; rfl) | ((with_reducible refine arm_loadg 12 3 22 (.pointer (some ⟨kb, 0, none⟩)) (.agg kv) hlk ?_ ?_ ?_); rfl; rfl))
  refine (CP.out _).mono ?_
  rintro e w3 ⟨A, G, rfl, hpb, hP, hlim, hlo, hB⟩
  have c11 := HV.out.cell (keep_block hB C2.out) 11 (by decide)
  have hs2 := B2.out.size
  have hpb0 : w.heap.size ≤ A.pb := by omega
  have HP3 := Lib.hid hP
  have B3 := Lib.hid (B2.out.trans (hB.mono B2.out.size))
  have HLO : Hid (∀ k, k < w.heap.size → A.tg k = 0) := Lib.hid fun k hk => hlo k (by omega)
  clear hld hlk C2 HX2 B2 hB CP hpb hs2 hP hlo
  go_wp2_with fail
  refine (CA.out _).mono ?_
  rintro e w4 ⟨rfl, hA, hB⟩
  have HP4 := Lib.hid (HP3.out.below hB)
  have B4 := Lib.hid (B3.out.trans (hB.mono B3.out.size))
  have hpc : w3.heap.size < w4.heap.size := (Array.getElem?_eq_some_iff.1 hA).1
  have HA := Lib.hid hA
  clear HP3 B3 hB CA hA c11
  go_wp2
  have p := (Below.refl w4.heap.size w4).alloc (Nat.le_refl _) (.cells #[.pointer (some ⟨A.pb, 0, none⟩), .pointer (some ⟨w3.heap.size, 0, none⟩)] 132)
  exact HQ.out _ _ ⟨A, G, w4.heap.size, w3.heap.size, rfl, hpb0, HP4.out.below p, ⟨by omega, hpc, by simp⟩, Go.heap_alloc_new _ _, keep_block p HA.out, HLO.out, B4.out.trans (p.mono B4.out.size)⟩
def eng0 (sb pb : Nat) : Array Value := #[.pointer (some ⟨sb, 0, none⟩), .pointer (some ⟨pb, 0, none⟩)] ++ (List.replicate 32 (Value.int .i64 0)).toArray
theorem build_eng (sb pb : Nat) (w : World) : (Instr.build 115 #[(0, .pointer (some ⟨sb, 0, none⟩)), (1, .pointer (some ⟨pb, 0, none⟩))]).run Tryz.prog w = .ok (.agg (eng0 sb pb)) w := run_build w 115 _ _ (by kernel_rfl)
theorem eng0_at {w : World} {eb sb pb : Nat} (h : w.heap[eb]? = some (.cells (eng0 sb pb) 115 (0, 0))) : EnAt w eb sb pb 0 (fun _ => 0) :=
  ⟨eng0 sb pb, h, by simp [eng0], by rw [eng0, Array.getElem?_append_left (by simp)]; rfl, by rw [eng0, Array.getElem?_append_left (by simp)]; rfl, by rw [eng0, Array.getElem?_append_right (by simp), List.getElem?_toArray, List.getElem?_replicate, if_pos (by simp)], fun j hj => by
    rw [eng0, Array.getElem?_append_right (by simp; omega), List.getElem?_toArray, List.getElem?_replicate, if_pos (by simp; omega)]⟩
set_option maxRecDepth 100000 in
set_option maxHeartbeats 4000000 in
theorem engine_new (cv : Array Value) (c : Nat → Int) (kv : Array Value) (w : World) (hv : Cfg cv c) (hr : RightC c) (hk : kv.size = 16) :
    Calls Tryz.prog 9 #[.agg cv, .agg kv] w fun e w' => ∃ a G, e = .returned (.tuple #[.pointer (some ⟨a.eb, 0, none⟩), .int .i64 0]) ∧ w.heap.size ≤ a.eb ∧ Eng w' a ⟨cv, c, kv, G⟩ (pst0 (c 0).toNat (c 2).toNat (c 3).toNat (c 7).toNat) 0 (fun _ => 0) 0 ∧ (∀ k, k < w.heap.size → a.A.tg k = 0) ∧ Below w.heap.size w w' := by
  have CP := Lib.hid (fun w' => sched_new cv c kv w' hv hr hk)
  have HV := Lib.hid hv
  have HK := Lib.hid hk
  clear hv hr hk
  refine calls_hide fun Q HQ => ?_
  go_enter Tryz.func9, Tryz.ntmps9
  go_upto_region 1 with (first | ((with_reducible refine arm_box 2 0 26 cv ?_ ?_); rfl; intro w1 HB1 HX1 HS1) | ((with_reducible refine arm_box 3 1 22 kv ?_ ?_); rfl; intro w2 HB2 HX2 HS2))
  have C2 := Lib.hid (keep_block HB2.out HX1.out)
  have B2 := Lib.hid (HB1.out.trans (HB2.out.mono HB1.out.size))
  have hld := cfg_load C2.out HV.out
  have hlk := keys_load HK.out HX2.out
  generalize w1.heap.size = kb at *
  clear HB1 HX1 HS1 HB2 HS2
  go_wp2_with (first | ((with_reducible refine arm_loadg 9 2 26 (.pointer (some ⟨w.heap.size, 0, none⟩)) (.agg cv) hld ?_ ?_ ?_); rfl; rfl) | ((with_reducible refine arm_loadg 10 3 22 (.pointer (some ⟨kb, 0, none⟩)) (.agg kv) hlk ?_ ?_ ?_); rfl; rfl))
  refine (CP.out _).mono ?_
  rintro e w3 ⟨A, G, sb, pc, rfl, hpb, hP, ⟨hl1, hl2, hl3⟩, hS, hA, hlo, hB⟩
  have hs2 := B2.out.size
  have HP3 := Lib.hid hP
  have B3 := Lib.hid (B2.out.trans (hB.mono B2.out.size))
  have CS := Lib.hid (sched_police sb _ _ w3 hS)
  have hbe := build_eng sb A.pb w3
  have HS3 := Lib.hid hS
  have HA3 := Lib.hid hA
  have hlw : w2.heap.size ≤ A.lim := by have := hP.ok.lt hP.ok.pb (by omega); omega
  have HLO : Hid (∀ k, k < w.heap.size → A.tg k = 0) := Lib.hid fun k hk => hlo k (by omega)
  clear hld hlk C2 HX2 B2 hB CP hpb hP hS hA hlo
  go_wp2_with fail
  refine CS.out.mono ?_
  rintro e w4 ⟨rfl, rfl⟩
  have hge := B3.out.size
  obtain ⟨E0, hE0⟩ : ∃ z, eng0 sb A.pb = z := ⟨_, rfl⟩
  rw [hE0] at hbe
  have HE0 := Lib.hid hE0
  clear hE0 CS
  go_wp2_with (first | ((with_reducible refine arm_buildg 20 115 _ #[(0, .pointer (some ⟨sb, 0, none⟩)), (1, .pointer (some ⟨A.pb, 0, none⟩))] _ hbe ?_ ?_ ?_); (first | rfl | simp [Act.eval]); rfl) | ((with_reducible refine arm_box 21 20 115 E0 ?_ ?_); rfl; intro w5 HB5 HX5 HS5))
  have P5 := HP3.out.below HB5.out
  have hs5 := HS5.out
  have hX5 := HX5.out
  rw [← HE0.out] at hX5
  have htg : ∀ k, k < A.lim → (fun k => if k = w4.heap.size then 10 else if k = sb then 11 else if k = pc then 12 else A.tg k) k = A.tg k := fun k hk => by
    show (if k = w4.heap.size then 10 else if k = sb then 11 else if k = pc then 12 else A.tg k) = A.tg k
    rw [if_neg (by omega), if_neg (by omega), if_neg (by omega)]
  have hhi : ∀ k, w5.heap.size ≤ k → (fun k => if k = w4.heap.size then 10 else if k = sb then 11 else if k = pc then 12 else A.tg k) k = 0 := fun k hk => by
    show (if k = w4.heap.size then 10 else if k = sb then 11 else if k = pc then 12 else A.tg k) = 0
    rw [if_neg (by omega), if_neg (by omega), if_neg (by omega)]
    exact P5.ok.hi k (by omega)
  have hn1 : ¬ sb = w4.heap.size := by omega
  have hn2 : ¬ pc = w4.heap.size := by omega
  have hn3 : ¬ pc = sb := by omega
  have ht1 : (fun k => if k = w4.heap.size then 10 else if k = sb then 11 else if k = pc then 12 else A.tg k) sb = 11 := (if_neg hn1).trans (if_pos rfl)
  have ht2 : (fun k => if k = w4.heap.size then 10 else if k = sb then 11 else if k = pc then 12 else A.tg k) pc = 12 := (if_neg hn2).trans ((if_neg hn3).trans (if_pos rfl))
  refine HQ.out _ _ ⟨⟨A.re _ _, w4.heap.size, sb, pc⟩, G, rfl, hge, ⟨P5.re htg hhi (Nat.le_refl _), eng0_at hX5, keep_block HB5.out HS3.out, keep_block HB5.out HA3.out, if_pos rfl, ht1, ht2⟩, fun k hk => (htg k (by omega)).trans (HLO.out k hk), B3.out.trans (HB5.out.mono B3.out.size)⟩
end Go.Proofs.YtpanmfdbdgecaaaGreat.C

namespace Go.Proofs.YtpanmfdbdgecaaaGreat.C
open Go.RowKit
set_option linter.unusedVariables false
theorem police_step (pb gb n : Nat) (kv G : Array Value) (w : World) (h : w.cell? ⟨pb, 20, none⟩ = some (.pointer (some ⟨gb, 0, none⟩))) (hg : GnAt w gb n kv G) :
    Calls Tryz.prog 50 #[.pointer (some ⟨pb, 0, none⟩)] w fun e w' => e = .returned (.tuple #[.int .i64 0, .bool false]) ∧ w' = w := by
  have C := Lib.hid (gens_moving w hg)
  clear hg
  go_enter Tryz.func50, Tryz.ntmps50
  go_wp2_with fail
  refine C.out.mono ?_
  rintro e w1 ⟨rfl, rfl⟩
  go_wp2
  go_ret2
  exact ⟨rfl, rfl⟩
theorem engine_ahead (eb pb gb n : Nat) (kv G : Array Value) (w : World) (he : w.cell? ⟨eb, 1, none⟩ = some (.pointer (some ⟨pb, 0, none⟩))) (h : w.cell? ⟨pb, 20, none⟩ = some (.pointer (some ⟨gb, 0, none⟩))) (hg : GnAt w gb n kv G) :
    Calls Tryz.prog 28 #[.pointer (some ⟨eb, 0, none⟩)] w fun e w' => e = .returned (.tuple #[]) ∧ w' = w := by
  have C := Lib.hid (police_step pb gb n kv G w h hg)
  clear hg h
  go_enter Tryz.func28, Tryz.ntmps28
  go_wp2_with fail
  refine C.out.mono ?_
  rintro e w1 ⟨rfl, rfl⟩
  go_wp2
  go_end0
  exact ⟨rfl, rfl⟩
end Go.Proofs.YtpanmfdbdgecaaaGreat.C

namespace Go.Proofs.YtpanmfdbdgecaaaGreat.C
open Go.RowKit
set_option linter.unusedVariables false
def adN (N : Nat → Int) (k : Nat) (n : Int) : Nat → Int := upN N k (addC (N k) n)
section
variable {w w' : World} {a : EAd} {F : PCf} {S S' : PSt} {now nx : Int} {N : Nat → Int} {ks : List Nat}
theorem Eng.tur (h : Eng w a F S now N nx) (p : Tur a.A.tg ks w w') (hk : ∀ k, 1 ≤ k → k ≤ 12 → k ∉ ks) : Eng w' a F S now N nx := by
  obtain ⟨t1, t2, t3⟩ := h.tags
  exact ⟨h.pol.tur p (fun k h1 h2 => hk k h1 (by omega)), h.en.tur p (by rw [t1]; exact hk _ (by omega) (by omega)), p.keep h.sch (by rw [t2]; exact hk _ (by omega) (by omega)), h.pac.tur p (by rw [t3]; exact hk _ (by omega) (by omega)), h.tags⟩
theorem Eng.below (h : Eng w a F S now N nx) (p : Below w.heap.size w w') : Eng w' a F S now N nx := h.tur (ks := []) (Tur.of_below p) (by simp)
theorem Eng.drew (h : Eng w a F S now N nx) : Eng w.drew a F S now N nx := h.below (Below.refl _ _).drew
theorem Eng.setEn (h : Eng w a F S now N nx) {now' : Int} {N' : Nat → Int} (p : Tur a.A.tg [10] w w') (k : EnAt w' a.eb a.sb a.A.pb now' N') : Eng w' a F S now' N' nx := by
  obtain ⟨t1, t2, t3⟩ := h.tags
  exact ⟨h.pol.tur p (by intro k h1 h2; simp; omega), k, p.keep h.sch (by rw [t2]; decide), h.pac.tur p (by rw [t3]; decide), h.tags⟩
/-- The police has gone on. -/
theorem Eng.setPol (h : Eng w a F S now N nx) {A' : PAd} (p : Tur a.A.tg ks w w') (hk : 10 ∉ ks ∧ 11 ∉ ks ∧ 12 ∉ ks) (q : Pol w' A' F S') (hpb : A'.pb = a.A.pb) (ht : ∀ k, k < w.heap.size → A'.tg k = a.A.tg k) : Eng w' { a with A := A' } F S' now N nx := by
  obtain ⟨t1, t2, t3⟩ := h.tags
  have hen := h.en.tur p (by rw [t1]; exact hk.1)
  have l1 : a.eb < w.heap.size := by obtain ⟨E, e1, _⟩ := h.en.ptr; exact (Array.getElem?_eq_some_iff.1 e1).1
  have l2 : a.sb < w.heap.size := (Array.getElem?_eq_some_iff.1 h.sch).1
  have l3 : a.pc < w.heap.size := (Array.getElem?_eq_some_iff.1 h.pac).1
  refine ⟨q, ?_, ?_, h.pac.tur p (by rw [t3]; exact hk.2.2), (ht _ l1).trans t1, (ht _ l2).trans t2, (ht _ l3).trans t3⟩
  · show EnAt w' a.eb a.sb A'.pb now N
    rw [hpb]
    exact hen
  · show w'.heap[a.sb]? = some (.cells #[.pointer (some ⟨A'.pb, 0, none⟩), .pointer (some ⟨a.pc, 0, none⟩)] 132 (0, 0))
    rw [hpb]
    exact p.keep h.sch (by rw [t2]; exact hk.2.1)
theorem Eng.lim (h : Eng w a F S now N nx) : a.A.lim ≤ w.heap.size := h.pol.lim
theorem eng_add (k : Nat) (n : Int) (h : Eng w a F S now N nx) (hk : k < 15) :
    Calls Tryz.prog 29 #[.pointer (some ⟨a.eb, 3, none⟩), .int .i64 (k : Nat), .int .i64 n] w fun e w' => e = .returned (.tuple #[]) ∧ Eng w' a F S now (adN N k n) nx ∧ Tur a.A.tg [10] w w' := by
  refine (stats_add a.eb 3 k (N k) n w hk (h.en.n k (by omega)) (h.en.cells.2.2.2 _) (by omega)).mono ?_
  rintro e w' ⟨rfl, hB⟩
  have p : Tur a.A.tg [10] w (w.setCell ⟨a.eb, 3 + k, none⟩ (.int .i64 (addC (N k) n))) := Tur.of_two (Two.setCell (g := a.eb) (h := a.eb) (x := ⟨a.eb, 3 + k, none⟩) (Two.refl _ _ w) (.inl rfl) _) (by simp [h.tags.1]) (by simp [h.tags.1])
  have q : Tur a.A.tg [10] w w' := p.below (by simpa using hB)
  exact ⟨rfl, (h.setEn p (h.en.setN k (by omega) _)).below (by simpa using hB), q⟩
theorem eng_because (k : Nat) (n : Int) (h : Eng w a F S now N nx) (hk : k < 16) :
    Calls Tryz.prog 31 #[.pointer (some ⟨a.eb, 3, none⟩), .int .i64 (k : Nat), .int .i64 n] w fun e w' => e = .returned (.tuple #[]) ∧ Eng w' a F S now (adN N (15 + k) n) nx ∧ Tur a.A.tg [10] w w' := by
  refine (stats_because a.eb 3 k (N (15 + k)) n w hk (by rw [Nat.add_assoc]; exact h.en.n (15 + k) (by omega)) (h.en.cells.2.2.2 _) (by omega)).mono ?_
  rintro e w' ⟨rfl, hB⟩
  rw [Nat.add_assoc] at hB
  have p : Tur a.A.tg [10] w (w.setCell ⟨a.eb, 3 + (15 + k), none⟩ (.int .i64 (addC (N (15 + k)) n))) := Tur.of_two (Two.setCell (g := a.eb) (h := a.eb) (x := ⟨a.eb, 3 + (15 + k), none⟩) (Two.refl _ _ w) (.inl rfl) _) (by simp [h.tags.1]) (by simp [h.tags.1])
  have q : Tur a.A.tg [10] w w' := p.below (by simpa using hB)
  exact ⟨rfl, (h.setEn p (h.en.setN (15 + k) (by omega) _)).below (by simpa using hB), q⟩
theorem eng_ahead (h : Eng w a F S now N nx) : Calls Tryz.prog 28 #[.pointer (some ⟨a.eb, 0, none⟩)] w fun e w' => e = .returned (.tuple #[]) ∧ w' = w :=
  engine_ahead a.eb a.A.pb a.A.gb _ _ _ w h.en.cells.2.1 h.pol.c20 h.pol.gn
end
end Go.Proofs.YtpanmfdbdgecaaaGreat.C
