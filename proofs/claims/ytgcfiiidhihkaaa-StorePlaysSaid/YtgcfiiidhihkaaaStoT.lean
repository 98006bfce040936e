/- The walk of Push (stores): no room; done. -/
import Derived.Test.YtgcfiiidhihkaaaStoS
import Derived.Deep.RegionHeld
import Derived.Deep.DeepMust
namespace Go.Proofs.Ytgcfiiidhihkaaa.C
open Go.RowKit
set_option linter.unusedVariables false
/-- Where Push stands when a place has been taken. -/
structure PB (w0 w : World) (a : Adr) (L : List (List (Array Value))) (R : Nat) (A : List (Option (Array Value))) (fl : List Nat) (Q : List (List Nat)) (x : Array Value) : Prop where
  amg : Amg a.bs w0 w
  ptr : w.heap[a.sb]? = some (.cells #[.pointer (some ⟨a.ps, 0, none⟩), .pointer (some ⟨a.pb, 0, none⟩), .slice (some ⟨a.bb, 0, none⟩) L.length L.length] 127 (0, 0))
  slab : PS.Slab w a.ps a.pr A fl
  chain : CH.Chain w a.pb a.b1 a.b2 Q R
  bytes : w.heap[a.bb]? = some (.cells (bytesV L).toArray 2 (0, 0))
  box : w.heap[w0.heap.size]? = some (.cells x 79 (0, 0))
theorem pb_of {w w3 w4 : World} {a : Adr} {L : List (List (Array Value))} {R : Nat} {A A' : List (Option (Array Value))} {fl fl' : List Nat} {Q : List (List Nat)} {x : Array Value} (h : StAt w a L R A fl Q) (hb : Below w.heap.size w w3) (hx : w3.heap[w.heap.size]? = some (.cells x 79 (0, 0))) (hs : PS.Slab w4 a.ps a.pr A' fl') (ht : Two a.ps a.pr w3 w4) : PB w w4 a L R A' fl' Q x := by
  have h3 := h.below hb
  obtain ⟨⟨e1, e2, e3, e4, e5, e6⟩, ⟨f1, f2, f3, f4, f5⟩, ⟨g1, g2, g3, g4⟩, ⟨i1, i2, i3⟩, j1, j2, j3⟩ := h.ne
  obtain ⟨k1, k2, k3, k4, k5, k6, k7⟩ := h.lt
  have hA4 : Amg a.bs w w4 := (Amg.of_below hb).trans (Amg.of_two ht (by simp [Adr.bs]) (by simp [Adr.bs]))
  refine ⟨hA4, hA4.keep h.ptr (by simp [Adr.bs, e1, e2, e4, e5, e6]), hs, chain_two h3.chain ht ⟨fun e => f2 e.symm, fun e => g1 e.symm⟩ ⟨fun e => f3 e.symm, fun e => g2 e.symm⟩ ⟨fun e => f4 e.symm, fun e => g3 e.symm⟩, ?_, ?_⟩
  · exact (ht.block a.bb (Array.getElem?_eq_some_iff.1 h3.bytes).1 (fun e => f5 e.symm) (fun e => g4 e.symm)).trans h3.bytes
  · exact (ht.block w.heap.size (Array.getElem?_eq_some_iff.1 hx).1 (fun e => by omega) (fun e => by omega)).trans hx
section
variable {w0 w : World} {a : Adr} {L : List (List (Array Value))} {R : Nat} {A A' : List (Option (Array Value))} {fl fl' : List Nat} {Q : List (List Nat)} {x : Array Value}
theorem PB.c2 (h : PB w0 w a L R A fl Q x) : w.cell? ⟨a.sb, 2, none⟩ = some (.slice (some ⟨a.bb, 0, none⟩) L.length L.length) := by rw [cell_of_row _ _ _ _ _ _ h.ptr]; rfl
theorem PB.byte (h : PB w0 w a L R A fl Q x) {c : Nat} {l : List (Array Value)} (hl : L[c]? = some l) : w.cell? ⟨a.bb, c, none⟩ = some (.int .i64 (sumL l)) := by
  rw [cell_of_row _ _ _ _ _ _ h.bytes, List.getElem?_toArray]
  exact bytesV_at hl
theorem PB.stored (h : PB w0 w a L R A' fl' Q x) (h0 : StAt w0 a L R A fl Q) (v : Value) (c : Nat) :
    (w.setCell ⟨a.bb, c, none⟩ v).drew.heap[a.sb]? = some (.cells #[.pointer (some ⟨a.ps, 0, none⟩), .pointer (some ⟨a.pb, 0, none⟩), .slice (some ⟨a.bb, 0, none⟩) L.length L.length] 127 (0, 0)) ∧
    PS.Slab (w.setCell ⟨a.bb, c, none⟩ v).drew a.ps a.pr A' fl' ∧ CH.Chain (w.setCell ⟨a.bb, c, none⟩ v).drew a.pb a.b1 a.b2 Q R ∧ Amg a.bs w0 (w.setCell ⟨a.bb, c, none⟩ v).drew := by
  obtain ⟨⟨e1, e2, e3, e4, e5, e6⟩, ⟨f1, f2, f3, f4, f5⟩, ⟨g1, g2, g3, g4⟩, ⟨i1, i2, i3⟩, j1, j2, j3⟩ := h0.ne
  have ht : Two a.bb a.bb w (w.setCell ⟨a.bb, c, none⟩ v).drew := ((Two.refl a.bb a.bb w).setCell (x := ⟨a.bb, c, none⟩) (.inl rfl) v).drewN 1
  refine ⟨?_, h.slab.two ht f5 f5 g4 g4, chain_two h.chain ht ⟨i3, i3⟩ ⟨j2, j2⟩ ⟨j3, j3⟩, h.amg.trans (Amg.of_two ht (by simp [Adr.bs]) (by simp [Adr.bs]))⟩
  show (w.setCell ⟨a.bb, c, none⟩ v).heap[a.sb]? = _
  rw [heap_setCell_other _ _ _ _ (by simpa using e6)]
  exact h.ptr
end
/-- What the taking of a place reads. -/
structure KB (bx : Nat) (a : Adr) (L : List (List (Array Value))) (x : Array Value) (w : World) : Prop where
  ptr : w.heap[a.sb]? = some (.cells #[.pointer (some ⟨a.ps, 0, none⟩), .pointer (some ⟨a.pb, 0, none⟩), .slice (some ⟨a.bb, 0, none⟩) L.length L.length] 127 (0, 0))
  box : w.heap[bx]? = some (.cells x 79 (0, 0))
theorem KB.c0 {bx : Nat} {a : Adr} {L : List (List (Array Value))} {x : Array Value} {w : World} (h : KB bx a L x w) : w.cell? ⟨a.sb, 0, none⟩ = some (.pointer (some ⟨a.ps, 0, none⟩)) := by rw [cell_of_row _ _ _ _ _ _ h.ptr]; rfl
section
variable {w : World} {a : Adr} {L : List (List (Array Value))} {R : Nat}
set_option maxRecDepth 100000 in
theorem push_full (c n : Int) (x : Array Value) (h : Sto w a L R) (hx : PkL x n) (hc : 0 ≤ c ∧ c < L.length) (hn : 1 ≤ n ∧ n ≤ 9216) (hf : total L = R) :
    Calls Try.prog 43 #[.pointer (some ⟨a.sb, 0, none⟩), .int .i64 c, .agg x] w fun e w' => e = .returned (.bool false) ∧ Below w.heap.size w w' := by
  obtain ⟨A, fl, Q, h⟩ := h
  obtain ⟨l1, l2, l3⟩ := h.len
  have hfl : fl = [] := List.eq_nil_of_length_eq_zero (by have := h.lk.cnt; omega)
  subst hfl
  have C := Lib.hid (fun w' (p : Below w.heap.size w w') => has_st a c L.length w' (h.below p).c2 (by omega))
  rw [decide_eq_true hc] at C
  have CT := Lib.hid (fun w' (p : Below w.heap.size w w') => PS.s_take_no x (h.below p).slab)
  have HH := Lib.hid h
  have HL := Lib.hid hx.len
  have HPK := Lib.hid hx.pk
  obtain ⟨n1, n2⟩ := hn
  clear h hc hf hx
  go_enter Try.func43, Try.ntmps43
  go_upto_region 1 with ((with_reducible refine arm_box 5 2 79 x ?_ ?_); rfl; intro w1 HB HX HS)
  have hcell : w1.cell? ⟨w.heap.size, 45, none⟩ = some (.int .i64 n) := by rw [cell_of_row _ _ _ _ _ _ HX.out]; exact HL.out
  go_wp2_with fail
  refine (C.out _ HB.out).mono ?_
  rintro e w2 ⟨rfl, rfl⟩
  have HF : Hid (∀ w', Below w.heap.size w w' → w'.cell? ⟨a.sb, 0, none⟩ = some (.pointer (some ⟨a.ps, 0, none⟩))) := fun w' hb => (HH.out.below hb).c0
  have hlt := (Array.getElem?_eq_some_iff.1 HX.out).1
  have HS2 : Hid (∀ w', (Below w.heap.size w w' ∧ w'.heap[w.heap.size]? = some (.cells x 79 (0, 0))) → Below w'.heap.size w' w'.drew) := fun w' _ => (Below.refl _ _).drew
  go_wp2_with fail
  refine wp_region_held_drew (S := fun w' => Below w.heap.size w w' ∧ w'.heap[w.heap.size]? = some (.cells x 79 (0, 0))) (by kernel_rfl) ⟨HB.out.drew, HX.out⟩ (fun hHeld => ?_)
  refine wpAnyH_take (i := 0) (oi := ⟨some 24, _, _, _, _, _⟩) (v := ?_) rfl (by kernel_rfl) (by kernel_rfl) (by kernel_rfl) (fun _ _ _ h => h) (Or.inl ⟨by rfl, ?_⟩) hHeld ?_
  rotate_left
  · intro w hSw
    go_simp
    try with_reducible rfl
  try simp only [Act.put, List.setIfInBounds_toArray, List.set_cons_zero, List.set_cons_succ]
  refine wpAnyH_take (i := 1) (oi := ⟨some 25, _, _, _, _, _⟩) (v := ?_) rfl (by kernel_rfl) (by kernel_rfl) (by kernel_rfl) (fun _ _ _ h => h) (Or.inl ⟨by rfl, ?_⟩) hHeld ?_
  rotate_left
  · intro w hSw
    go_simp
    try with_reducible rfl
  try simp only [Act.put, List.setIfInBounds_toArray, List.set_cons_zero, List.set_cons_succ]
  refine wpAnyH_take (i := 2) (oi := ⟨some 26, _, _, _, _, _⟩) (v := ?_) rfl (by kernel_rfl) (by kernel_rfl) (by kernel_rfl) (fun _ _ _ h => h) (Or.inl ⟨by rfl, ?_⟩) hHeld ?_
  rotate_left
  · intro w hSw
    go_simp
    try with_reducible rfl
  try simp only [Act.put, List.setIfInBounds_toArray, List.set_cons_zero, List.set_cons_succ]
  refine wpAnyH_take (i := 3) (oi := ⟨some 27, _, _, _, _, _⟩) (v := ?_) rfl (by kernel_rfl) (by kernel_rfl) (by kernel_rfl) (fun _ _ _ h => h) (Or.inl ⟨by rfl, ?_⟩) hHeld ?_
  rotate_left
  · intro w hSw
    obtain k0 := HF.out w hSw.1
    go_simp
    try with_reducible rfl
  try simp only [Act.put, List.setIfInBounds_toArray, List.set_cons_zero, List.set_cons_succ]
  refine wpAnyH_take (i := 4) (oi := ⟨some 28, _, _, _, _, _⟩) (v := (.agg x)) rfl (by kernel_rfl) (by kernel_rfl) (by kernel_rfl) (fun _ _ _ h => h) (Or.inl ⟨by rfl, fun w hSw => exec_load rfl (pkt_load hSw.2 HPK.out)⟩) hHeld ?_
  try simp only [Act.put, List.setIfInBounds_toArray, List.set_cons_zero, List.set_cons_succ]
  refine wpAnyH_ready (rs := [5]) (by kernel_rfl) (by simp) ?_
  refine AllReadyH.cons rfl (fun K hK => ?_) AllReadyH.nil
  go_simp
  go_wp2_with (go_at_call 64; go_must (refine (CT.out _ hHeld.1).mono ?_; rintro e w5 ⟨rfl, hB5⟩))
  refine hK.out _ _ (⟨hHeld.1.trans (hB5.mono hHeld.1.size), keep_block hB5 hHeld.2⟩) (fun hHeld => ?_)
  clear hK K
  refine wpAnyH_take (i := 6) (oi := ⟨some 23, _, _, _, _, _⟩) (v := ?_) rfl (by kernel_rfl) (by kernel_rfl) (by kernel_rfl) (fun _ _ _ h => h) (Or.inl ⟨by rfl, ?_⟩) hHeld ?_
  rotate_left
  · intro w hSw
    go_simp
    try with_reducible rfl
  try simp only [Act.put, List.setIfInBounds_toArray, List.set_cons_zero, List.set_cons_succ]
  refine wpAnyH_take (i := 7) (oi := ⟨some 30, _, _, _, _, _⟩) (v := ?_) rfl (by kernel_rfl) (by kernel_rfl) (by kernel_rfl) (fun _ _ _ h => h) (Or.inl ⟨by rfl, ?_⟩) hHeld ?_
  rotate_left
  · intro w hSw
    go_simp
    try with_reducible rfl
  try simp only [Act.put, List.setIfInBounds_toArray, List.set_cons_zero, List.set_cons_succ]
  refine wpAnyH_take (i := 8) (oi := ⟨some 31, _, _, _, _, _⟩) (v := ?_) rfl (by kernel_rfl) (by kernel_rfl) (by kernel_rfl) (fun _ _ _ h => h) (Or.inl ⟨by rfl, ?_⟩) hHeld ?_
  rotate_left
  · intro w hSw
    go_simp
    try with_reducible rfl
  try simp only [Act.put, List.setIfInBounds_toArray, List.set_cons_zero, List.set_cons_succ]
  refine wpAnyH_take (i := 9) (oi := ⟨some 7, _, _, _, _, _⟩) (v := ?_) rfl (by kernel_rfl) (by kernel_rfl) (by kernel_rfl) (fun _ _ _ h => h) (Or.inl ⟨by rfl, ?_⟩) hHeld ?_
  rotate_left
  · intro w hSw
    go_simp
    try with_reducible rfl
  try simp only [Act.put, List.setIfInBounds_toArray, List.set_cons_zero, List.set_cons_succ]
  refine wpAnyH_take (i := 10) (oi := ⟨some 8, _, _, _, _, _⟩) (v := ?_) rfl (by kernel_rfl) (by kernel_rfl) (by kernel_rfl) (fun _ _ _ h => h) (Or.inl ⟨by rfl, ?_⟩) hHeld ?_
  rotate_left
  · intro w hSw
    go_simp
    try with_reducible rfl
  try simp only [Act.put, List.setIfInBounds_toArray, List.set_cons_zero, List.set_cons_succ]
  refine wpAnyH_done (by kernel_rfl) ?_ _
  clear CT C HS2
  have HB5 := Lib.hid hHeld.1
  clear hHeld
  go_wp2
  go_ret
  exact ⟨rfl, HB5.out⟩
set_option maxRecDepth 100000 in
set_option maxHeartbeats 400000 in
theorem push_yes (c : Nat) (n : Int) (x : Array Value) (l : List (Array Value)) (h : Sto w a L R) (hx : PkL x n) (hl : L[c]? = some l) (hn : 1 ≤ n ∧ n ≤ 9216) (hf : total L < R) :
    Calls Try.prog 43 #[.pointer (some ⟨a.sb, 0, none⟩), .int .i64 (c : Nat), .agg x] w fun e w' => e = .returned (.bool true) ∧ Sto w' a (L.set c (l ++ [x])) R ∧ Amg a.bs w w' := by
  obtain ⟨A, fl, Q, h⟩ := h
  obtain ⟨l1, l2, l3⟩ := h.len
  have hc := lt_of_some hl
  obtain ⟨i, r, rfl⟩ : ∃ i r, fl = i :: r := by
    cases fl with
    | nil => have := h.lk.cnt; simp at this; omega
    | cons i r => exact ⟨i, r, rfl⟩
  have hi : A[i]? = some none := (h.slab.mem i).1 (by simp)
  have hiR : i < R := by have := lt_of_some hi; have := h.lk.lenA; omega
  obtain ⟨q, hq, _⟩ := h.lk.line hl
  have hfree : ∀ (c' : Nat) (q' : List Nat), Q[c']? = some q' → i ∉ q' := fun c' q' hq' => h.lk.free hi hq'
  have hlk := h.lk.push hi hq hl (x := x) (by rw [hx.lenP]; exact hn)
  have hs := sumL_bound l (h.lk.ok l (List.mem_of_getElem? hl))
  have hll := total_le L l (List.mem_of_getElem? hl)
  have hsum : sumL (l ++ [x]) = sumL l + n := by rw [sumL_append, hx.lenP]
  have C := Lib.hid (fun w' (p : Below w.heap.size w w') => has_st a (c : Nat) L.length w' (h.below p).c2 (by omega))
  rw [decide_eq_true (show 0 ≤ (c : Int) ∧ (c : Int) < L.length by omega)] at C
  have CT := Lib.hid (fun w' (p : Below w.heap.size w w') => PS.s_take_yes i r x (h.below p).slab hx.pk)
  have hne := h.ne
  have hlt := h.lt
  have hsl : 0 ≤ sumL l ∧ sumL l ≤ 37748736 := by omega
  obtain ⟨s1, s2⟩ := hsl
  have HH := Lib.hid h
  have HL := Lib.hid hx.len
  have HPK := Lib.hid hx.pk
  have HLK := Lib.hid hlk
  have HSU := Lib.hid hsum
  have HLL := Lib.hid hl
  have HQQ := Lib.hid hq
  have HFR := Lib.hid hfree
  have HNE := Lib.hid hne
  have HLT := Lib.hid hlt
  obtain ⟨n1, n2⟩ := hn
  have hcn : (c : Int) < (L.length : Int) := by omega
  clear h hf hx hlk hsum hs hl hq hfree hne hlt hi
  go_enter Try.func43, Try.ntmps43
  go_upto_region 1 with ((with_reducible refine arm_box 5 2 79 x ?_ ?_); rfl; intro w1 HB HX HS)
  have hcell : w1.cell? ⟨w.heap.size, 45, none⟩ = some (.int .i64 n) := by rw [cell_of_row _ _ _ _ _ _ HX.out]; exact HL.out
  go_wp2_with fail
  refine (C.out _ HB.out).mono ?_
  rintro e w2 ⟨rfl, rfl⟩
  have HF : Hid (∀ w', Below w.heap.size w w' → w'.cell? ⟨a.sb, 0, none⟩ = some (.pointer (some ⟨a.ps, 0, none⟩))) := fun w' hb => (HH.out.below hb).c0
  have hlt := (Array.getElem?_eq_some_iff.1 HX.out).1
  have HN := Lib.hid (fun w3 w4 => pb_of (w3 := w3) (w4 := w4) (x := x) (A' := A.set i (some x)) (fl' := r) HH.out)
  have HK2 : Hid (KB w.heap.size a L x w2.drew) := ⟨(HH.out.below HB.out).ptr, HX.out⟩
  go_wp2_with fail
  refine wp_region_held_drew (S := KB w.heap.size a L x) (by kernel_rfl) HK2.out (fun hHeld => ?_)
  refine wpAnyH_take (i := 0) (oi := ⟨some 24, _, _, _, _, _⟩) (v := ?_) rfl (by kernel_rfl) (by kernel_rfl) (by kernel_rfl) (fun _ _ _ h => h) (Or.inl ⟨by rfl, ?_⟩) hHeld ?_
  rotate_left
  · intro w hSw
    go_simp
    try with_reducible rfl
  try simp only [Act.put, List.setIfInBounds_toArray, List.set_cons_zero, List.set_cons_succ]
  refine wpAnyH_take (i := 1) (oi := ⟨some 25, _, _, _, _, _⟩) (v := ?_) rfl (by kernel_rfl) (by kernel_rfl) (by kernel_rfl) (fun _ _ _ h => h) (Or.inl ⟨by rfl, ?_⟩) hHeld ?_
  rotate_left
  · intro w hSw
    go_simp
    try with_reducible rfl
  try simp only [Act.put, List.setIfInBounds_toArray, List.set_cons_zero, List.set_cons_succ]
  refine wpAnyH_take (i := 2) (oi := ⟨some 26, _, _, _, _, _⟩) (v := ?_) rfl (by kernel_rfl) (by kernel_rfl) (by kernel_rfl) (fun _ _ _ h => h) (Or.inl ⟨by rfl, ?_⟩) hHeld ?_
  rotate_left
  · intro w hSw
    go_simp
    try with_reducible rfl
  try simp only [Act.put, List.setIfInBounds_toArray, List.set_cons_zero, List.set_cons_succ]
  refine wpAnyH_take (i := 3) (oi := ⟨some 27, _, _, _, _, _⟩) (v := ?_) rfl (by kernel_rfl) (by kernel_rfl) (by kernel_rfl) (fun _ _ _ h => h) (Or.inl ⟨by rfl, ?_⟩) hHeld ?_
  rotate_left
  · intro w hSw
    obtain k0 := hSw.c0
    go_simp
    try with_reducible rfl
  try simp only [Act.put, List.setIfInBounds_toArray, List.set_cons_zero, List.set_cons_succ]
  refine wpAnyH_take (i := 4) (oi := ⟨some 28, _, _, _, _, _⟩) (v := (.agg x)) rfl (by kernel_rfl) (by kernel_rfl) (by kernel_rfl) (fun _ _ _ h => h) (Or.inl ⟨by rfl, fun w hSw => exec_load rfl (pkt_load hSw.box HPK.out)⟩) hHeld ?_
  try simp only [Act.put, List.setIfInBounds_toArray, List.set_cons_zero, List.set_cons_succ]
  refine wpAnyH_ready (rs := [5]) (by kernel_rfl) (by simp) ?_
  refine AllReadyH.cons rfl (fun K hK => ?_) AllReadyH.nil
  go_simp
  go_wp2_with (go_at_call 64; go_must (refine (CT.out _ HB.out.drew).mono ?_; rintro e w5 ⟨rfl, hS5, hT5⟩))
  refine hK.out _ _ (⟨(HN.out _ _ HB.out.drew HX.out hS5 hT5).ptr, (HN.out _ _ HB.out.drew HX.out hS5 hT5).box⟩) (fun hHeld => ?_)
  clear hK K
  refine wpAnyH_take (i := 6) (oi := ⟨some 23, _, _, _, _, _⟩) (v := ?_) rfl (by kernel_rfl) (by kernel_rfl) (by kernel_rfl) (fun _ _ _ h => h) (Or.inl ⟨by rfl, ?_⟩) hHeld ?_
  rotate_left
  · intro w hSw
    go_simp
    try with_reducible rfl
  try simp only [Act.put, List.setIfInBounds_toArray, List.set_cons_zero, List.set_cons_succ]
  refine wpAnyH_take (i := 7) (oi := ⟨some 30, _, _, _, _, _⟩) (v := ?_) rfl (by kernel_rfl) (by kernel_rfl) (by kernel_rfl) (fun _ _ _ h => h) (Or.inl ⟨by rfl, ?_⟩) hHeld ?_
  rotate_left
  · intro w hSw
    go_simp
    try with_reducible rfl
  try simp only [Act.put, List.setIfInBounds_toArray, List.set_cons_zero, List.set_cons_succ]
  refine wpAnyH_take (i := 8) (oi := ⟨some 31, _, _, _, _, _⟩) (v := ?_) rfl (by kernel_rfl) (by kernel_rfl) (by kernel_rfl) (fun _ _ _ h => h) (Or.inl ⟨by rfl, ?_⟩) hHeld ?_
  rotate_left
  · intro w hSw
    go_simp
    try with_reducible rfl
  try simp only [Act.put, List.setIfInBounds_toArray, List.set_cons_zero, List.set_cons_succ]
  refine wpAnyH_take (i := 9) (oi := ⟨some 7, _, _, _, _, _⟩) (v := ?_) rfl (by kernel_rfl) (by kernel_rfl) (by kernel_rfl) (fun _ _ _ h => h) (Or.inl ⟨by rfl, ?_⟩) hHeld ?_
  rotate_left
  · intro w hSw
    go_simp
    try with_reducible rfl
  try simp only [Act.put, List.setIfInBounds_toArray, List.set_cons_zero, List.set_cons_succ]
  refine wpAnyH_take (i := 10) (oi := ⟨some 8, _, _, _, _, _⟩) (v := ?_) rfl (by kernel_rfl) (by kernel_rfl) (by kernel_rfl) (fun _ _ _ h => h) (Or.inl ⟨by rfl, ?_⟩) hHeld ?_
  rotate_left
  · intro w hSw
    go_simp
    try with_reducible rfl
  try simp only [Act.put, List.setIfInBounds_toArray, List.set_cons_zero, List.set_cons_succ]
  refine wpAnyH_done (by kernel_rfl) ?_ _
  have HP5 := Lib.hid (HN.out _ _ HB.out.drew HX.out hS5 hT5)
  have c2 := HP5.out.c2
  have hby := HP5.out.byte HLL.out
  have hfz : w5.frozen? ⟨a.bb, c, none⟩ = false := frozen_of_row _ _ _ _ _ HP5.out.bytes
  have hcell5 : w5.cell? ⟨w.heap.size, 45, none⟩ = some (.int .i64 n) := by rw [cell_of_row _ _ _ _ _ _ HP5.out.box]; exact HL.out
  have hwn : IntKind.i64.wrap (sumL l + n) = sumL l + n := IntWalk.i64_in _ (by omega)
  have CPU := Lib.hid (fun w' (hch : CH.Chain w' a.pb a.b1 a.b2 Q R) => CH.c_push hch HQQ.out hiR HFR.out)
  have HBS := Lib.hid (show (w5.setCell ⟨a.bb, c, none⟩ (.int .i64 (sumL (l ++ [x])))).drew.heap[a.bb]? = _ from bytes_store (L := L) (a := a) (w := w5) HP5.out.bytes (c := c) (l ++ [x]))
  rw [HSU.out] at HBS
  generalize sumL l = sl at *
  have HSL := Lib.hid hll
  clear CT C hS5 hT5 hHeld HN HF hcell HK2 hlt HB HX HS hll
  go_wp2_with fail
  refine wp_region_still_tail 11 (by kernel_rfl) (by kernel_rfl) ?_
  change wpStill _ _ w5.drew (fun a' => wpList _ _ _ _ a' w5.drew) _ _
  simp only [List.take_succ_cons, List.take_zero, List.drop_succ_cons, List.drop_zero]
  iterate 11 still_step
  refine wpStill_nil ?_
  have h6 := HP5.out.stored HH.out (.int .i64 (sl + n)) c
  go_upto_region 7 with (fail)
  clear hby hcell5 c2
  generalize (w5.setCell ⟨a.bb, c, none⟩ (.int .i64 (sl + n))).drew = w6 at *
  have c1 : w6.cell? ⟨a.sb, 1, none⟩ = some (.pointer (some ⟨a.pb, 0, none⟩)) := by rw [cell_of_row _ _ _ _ _ _ h6.1]; rfl
  have H6 := Lib.hid h6
  clear h6 hfz hwn
  go_wp2_with fail
  refine (CPU.out _ H6.out.2.2.1).mono ?_
  rintro e w7 ⟨rfl, hC7, hT7⟩
  have hF : Sto w7 a (L.set c (l ++ [x])) R ∧ Amg a.bs w w7 := by
    obtain ⟨⟨e1, e2, e3, e4, e5, e6⟩, ⟨f1, f2, f3, f4, f5⟩, ⟨g1, g2, g3, g4⟩, ⟨i1, i2, i3⟩, j1, j2, j3⟩ := HNE.out
    obtain ⟨q1, q2, q3, q4⟩ := H6.out
    refine ⟨⟨_, _, _, ?_, q2.two hT7 f3 f4 g2 g3, hC7, ?_, HLK.out⟩, q4.trans (Amg.of_two hT7 (by simp [Adr.bs]) (by simp [Adr.bs]))⟩
    · rw [List.length_set]
      exact (hT7.block a.sb (Array.getElem?_eq_some_iff.1 q1).1 e4 e5).trans q1
    · exact (hT7.block a.bb (Array.getElem?_eq_some_iff.1 HBS.out).1 (fun e => j2 e.symm) (fun e => j3 e.symm)).trans HBS.out
  have HFF := Lib.hid hF
  clear hC7 hT7 hF
  go_wp2
  go_ret
  exact ⟨rfl, HFF.out⟩
end
end Go.Proofs.Ytgcfiiidhihkaaa.C
