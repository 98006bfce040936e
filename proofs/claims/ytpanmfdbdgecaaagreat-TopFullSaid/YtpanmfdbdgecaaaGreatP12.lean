/- The police: boxed. · The police: Arrive of somebody who is put into the box. · The police: what its block has while it is made; quota's New. -/
import Derived.Test.YtpanmfdbdgecaaaGreatP11
namespace Go.Proofs.YtpanmfdbdgecaaaGreat.C
open Go.RowKit
set_option linter.unusedVariables false
theorem Tur.trans2 {f g : Nat → Nat} {ks : List Nat} {a b c : World} (p : Tur f ks a b) (q : Tur g ks b c) (h : ∀ k, k < a.heap.size → g k = f k) : Tur f ks a c :=
  ⟨q.os.trans p.os, q.tape.trans p.tape, q.output.trans p.output, Nat.le_trans p.size q.size, fun k hk hn => (q.block k (Nat.lt_of_lt_of_le hk p.size) (by rw [h k hk]; exact hn)).trans (p.block k hk hn)⟩
/-- A packet of a prefix, so long. -/
structure PkP (x : Array Value) (n : Int) (p : Array Value) : Prop where
  l : PkL x n
  pre : x.extract 37 (37 + 8) = p
theorem PkP.load {x p : Array Value} {n : Int} (h : PkP x n p) (hp : p.size = 8) {w : World} {b : Nat} {t : TypeId} (hb : w.heap[b]? = some (.cells x t (0, 0))) : (Instr.loadAt 65 (.pointer (some ⟨b, 37, none⟩))).run Tryz.prog w = .ok (.agg p) w :=
  box_load_mid (t := 65) hb (of_extract h.pre) _ Tryz.underlying65 rfl (by rw [hp]; kernel_rfl)
section
variable {w : World} {A : PAd} {F : PCf} {S S1 S2 : PSt}
set_option maxRecDepth 100000 in
theorem boxed_yes (n now r : Int) (x p : Array Value) (hx : PkP x n p) (hp : p.size = 8) (h : Pol w A F S) (hr : 0 ≤ r ∧ r ≤ 100)
    (htk : ∀ w', Pol w' A F S → Calls Tryz.prog 73 #[.pointer (some ⟨A.xb, 0, none⟩), .agg p, .int .i64 now, .int .i64 n] w' fun e w'' => e = .returned (.bool true) ∧ Pol w'' A F S1 ∧ Tur A.tg [9] w' w'')
    (hjn : ∀ w', Pol w' A F S1 → Calls Tryz.prog 74 #[.pointer (some ⟨A.pb, 0, none⟩), .int .i64 (2 * F.c 0), .agg x] w' fun e w'' => e = .returned (.int .i64 r) ∧ Pol w'' A F S2 ∧ Tur A.tg [3, 4, 5, 6, 7] w' w'') :
    Calls Tryz.prog 41 #[.pointer (some ⟨A.pb, 0, none⟩), .agg x, .int .i64 now] w fun e w' => e = .returned (.int .i64 (if r = 0 then 0 else 9)) ∧ Pol w' A F S2 ∧ Tur A.tg [3, 4, 5, 6, 7, 9] w w' := by
  have HX0 := Lib.hid hx
  have HTK := Lib.hid htk
  have HJN := Lib.hid hjn
  have HP := Lib.hid h
  have CPE := Lib.hid (fun w' (q : Pol w' A F S1) => police_penalty q)
  clear h htk hjn hx
  generalize 2 * F.c 0 = pc at *
  go_enter Tryz.func41, Tryz.ntmps41
  go_upto_region 1 with ((with_reducible refine arm_box 4 1 68 x ?_ ?_); rfl; intro w1 HB HX HS)
  have HP1 := Lib.hid (HP.out.below HB.out)
  have HNI : Hid (∀ {a b : World} {ks : List Nat}, Tur A.tg ks a b → 0 ∉ ks → ∀ {o}, a.heap[w.heap.size]? = some o → b.heap[w.heap.size]? = some o) := Lib.hid fun q h0 o ho => q.keep ho (by rw [HP.out.ok.hi _ HP.out.lim]; exact h0)
  have HL1 : Hid (∀ w', Tur A.tg [9] w1 w' → w'.cell? ⟨A.pb, 27, none⟩ = some (.pointer (some ⟨A.xb, 0, none⟩)) ∧ w'.cell? ⟨w.heap.size, 45, none⟩ = some (.int .i64 n) ∧ (Instr.loadAt 65 (.pointer (some ⟨w.heap.size, 37, none⟩))).run Tryz.prog w' = .ok (.agg p) w') := Lib.hid fun w' q =>
    have hb := HNI.out q (by decide) HX.out
    ⟨cells_of_row ((HP1.out.rest q).ptr (by decide)) 27 _ (polC_hi HP1.out 7), cells_of_row hb 45 _ HX0.out.l.len, HX0.out.load hp hb⟩
  have T1 : Hid (Tur A.tg [3, 4, 5, 6, 7, 9] w w1) := Lib.hid (Tur.of_below HB.out)
  clear HB HS HP
  go_wp2_with fail
  refine wp_region_held_drew (S := Tur A.tg [9] w1) (by kernel_rfl) (Tur.refl _ _ _).drew (fun hHeld => ?_)
  refine wpAnyH_take (i := 0) (oi := ⟨some 7, _, _, _, _, _⟩) (v := ?_) rfl (by kernel_rfl) (by kernel_rfl) (by kernel_rfl) (fun _ _ _ h => h) (Or.inl ⟨by rfl, ?_⟩) hHeld ?_
  rotate_left
  · intro w hSw
    go_simp
    try with_reducible rfl
  try simp only [Act.put, List.setIfInBounds_toArray, List.set_cons_zero, List.set_cons_succ]
  refine wpAnyH_take (i := 1) (oi := ⟨some 8, _, _, _, _, _⟩) (v := ?_) rfl (by kernel_rfl) (by kernel_rfl) (by kernel_rfl) (fun _ _ _ h => h) (Or.inl ⟨by rfl, ?_⟩) hHeld ?_
  rotate_left
  · intro w hSw
    go_simp
    try with_reducible rfl
  try simp only [Act.put, List.setIfInBounds_toArray, List.set_cons_zero, List.set_cons_succ]
  refine wpAnyH_take (i := 2) (oi := ⟨some 9, _, _, _, _, _⟩) (v := ?_) rfl (by kernel_rfl) (by kernel_rfl) (by kernel_rfl) (fun _ _ _ h => h) (Or.inl ⟨by rfl, ?_⟩) hHeld ?_
  rotate_left
  · intro w hSw
    go_simp
    try with_reducible rfl
  try simp only [Act.put, List.setIfInBounds_toArray, List.set_cons_zero, List.set_cons_succ]
  refine wpAnyH_take (i := 3) (oi := ⟨some 10, _, _, _, _, _⟩) (v := ?_) rfl (by kernel_rfl) (by kernel_rfl) (by kernel_rfl) (fun _ _ _ h => h) (Or.inl ⟨by rfl, ?_⟩) hHeld ?_
  rotate_left
  · intro w hSw
    obtain ⟨k0, k1, _⟩ := HL1.out w hSw
    go_simp
    try with_reducible rfl
  try simp only [Act.put, List.setIfInBounds_toArray, List.set_cons_zero, List.set_cons_succ]
  refine wpAnyH_take (i := 4) (oi := ⟨some 11, _, _, _, _, _⟩) (v := ?_) rfl (by kernel_rfl) (by kernel_rfl) (by kernel_rfl) (fun _ _ _ h => h) (Or.inl ⟨by rfl, ?_⟩) hHeld ?_
  rotate_left
  · intro w hSw
    go_simp
    try with_reducible rfl
  try simp only [Act.put, List.setIfInBounds_toArray, List.set_cons_zero, List.set_cons_succ]
  refine wpAnyH_take (i := 5) (oi := ⟨some 12, _, _, _, _, _⟩) (v := .agg p) rfl (by kernel_rfl) (by kernel_rfl) (by kernel_rfl) (fun _ _ _ h => h) (Or.inl ⟨by rfl, fun w hSw => exec_load rfl (HL1.out w hSw).2.2⟩) hHeld ?_
  try simp only [Act.put, List.setIfInBounds_toArray, List.set_cons_zero, List.set_cons_succ]
  refine wpAnyH_take (i := 6) (oi := ⟨some 13, _, _, _, _, _⟩) (v := ?_) rfl (by kernel_rfl) (by kernel_rfl) (by kernel_rfl) (fun _ _ _ h => h) (Or.inl ⟨by rfl, ?_⟩) hHeld ?_
  rotate_left
  · intro w hSw
    go_simp
    try with_reducible rfl
  try simp only [Act.put, List.setIfInBounds_toArray, List.set_cons_zero, List.set_cons_succ]
  refine wpAnyH_take (i := 7) (oi := ⟨some 14, _, _, _, _, _⟩) (v := ?_) rfl (by kernel_rfl) (by kernel_rfl) (by kernel_rfl) (fun _ _ _ h => h) (Or.inl ⟨by rfl, ?_⟩) hHeld ?_
  rotate_left
  · intro w hSw
    go_simp
    try with_reducible rfl
  try simp only [Act.put, List.setIfInBounds_toArray, List.set_cons_zero, List.set_cons_succ]
  refine wpAnyH_take (i := 8) (oi := ⟨some 15, _, _, _, _, _⟩) (v := ?_) rfl (by kernel_rfl) (by kernel_rfl) (by kernel_rfl) (fun _ _ _ h => h) (Or.inl ⟨by rfl, ?_⟩) hHeld ?_
  rotate_left
  · intro w hSw
    obtain ⟨k0, k1, _⟩ := HL1.out w hSw
    go_simp
    try with_reducible rfl
  try simp only [Act.put, List.setIfInBounds_toArray, List.set_cons_zero, List.set_cons_succ]
  refine wpAnyH_ready (rs := [9]) (by kernel_rfl) (by simp) ?_
  refine AllReadyH.cons rfl (fun K hK => ?_) AllReadyH.nil
  go_simp
  go_wp2_with (go_at_call 73; go_must (refine (HTK.out _ HP1.out.drew).mono ?_; rintro e w9 ⟨rfl, hP9, hT9⟩))
  refine hK.out _ _ (hHeld.trans hT9) (fun hHeld => ?_)
  clear hK K
  refine wpAnyH_take (i := 10) (oi := ⟨some 17, _, _, _, _, _⟩) (v := ?_) rfl (by kernel_rfl) (by kernel_rfl) (by kernel_rfl) (fun _ _ _ h => h) (Or.inl ⟨by rfl, ?_⟩) hHeld ?_
  rotate_left
  · intro w hSw
    go_simp
    try with_reducible rfl
  try simp only [Act.put, List.setIfInBounds_toArray, List.set_cons_zero, List.set_cons_succ]
  refine wpAnyH_done (by kernel_rfl) ?_ _
  have HP9 := Lib.hid hP9
  have HX9 := Lib.hid (HNI.out hHeld (by decide) HX.out)
  have T9 := Lib.hid (T1.out.trans (hHeld.sub (js := [3, 4, 5, 6, 7, 9]) (by simp)))
  clear hHeld hP9 hT9 HL1 HP1 T1 HX
  have HL9 : Hid (∀ w', Tur A.tg [3, 4, 5, 6, 7] w9 w' → (Instr.loadAt 68 (.pointer (some ⟨w.heap.size, 0, none⟩))).run Tryz.prog w' = .ok (.agg x) w') := Lib.hid fun w' q => pkt_load (HNI.out q (by decide) HX9.out) HX0.out.l.pk
  go_wp2_with fail
  refine wp_region_held_drew (S := Tur A.tg [3, 4, 5, 6, 7] w9) (by kernel_rfl) (Tur.refl _ _ _).drew (fun hHeld => ?_)
  refine wpAnyH_take (i := 0) (oi := ⟨some 18, _, _, _, _, _⟩) (v := ?_) rfl (by kernel_rfl) (by kernel_rfl) (by kernel_rfl) (fun _ _ _ h => h) (Or.inl ⟨by rfl, ?_⟩) hHeld ?_
  rotate_left
  · intro w hSw
    go_simp
    try with_reducible rfl
  try simp only [Act.put, List.setIfInBounds_toArray, List.set_cons_zero, List.set_cons_succ]
  refine wpAnyH_take (i := 1) (oi := ⟨some 19, _, _, _, _, _⟩) (v := ?_) rfl (by kernel_rfl) (by kernel_rfl) (by kernel_rfl) (fun _ _ _ h => h) (Or.inl ⟨by rfl, ?_⟩) hHeld ?_
  rotate_left
  · intro w hSw
    go_simp
    try with_reducible rfl
  try simp only [Act.put, List.setIfInBounds_toArray, List.set_cons_zero, List.set_cons_succ]
  refine wpAnyH_take (i := 3) (oi := ⟨some 21, _, _, _, _, _⟩) (v := .agg x) rfl (by kernel_rfl) (by kernel_rfl) (by kernel_rfl) (fun _ _ _ h => h) (Or.inl ⟨by rfl, fun w hSw => exec_load rfl (HL9.out w hSw)⟩) hHeld ?_
  try simp only [Act.put, List.setIfInBounds_toArray, List.set_cons_zero, List.set_cons_succ]
  refine wpAnyH_ready (rs := [2]) (by kernel_rfl) (by simp) ?_
  refine AllReadyH.cons rfl (fun K hK => ?_) AllReadyH.nil
  go_simp
  go_wp2_with (go_at_call 40; go_must (refine (CPE.out _ HP9.out.drew).mono ?_; rintro e w2 ⟨rfl, rfl⟩))
  refine hK.out _ _ (hHeld) (fun hHeld => ?_)
  clear hK K
  refine wpAnyH_ready (rs := [4]) (by kernel_rfl) (by simp) ?_
  refine AllReadyH.cons rfl (fun K hK => ?_) AllReadyH.nil
  go_simp
  go_wp2_with (go_at_call 74; go_must (refine (HJN.out _ HP9.out.drew).mono ?_; rintro e w4 ⟨rfl, hP4, hT4⟩))
  refine hK.out _ _ (hHeld.trans hT4) (fun hHeld => ?_)
  clear hK K
  refine wpAnyH_take (i := 5) (oi := ⟨some 23, _, _, _, _, _⟩) (v := ?_) rfl (by kernel_rfl) (by kernel_rfl) (by kernel_rfl) (fun _ _ _ h => h) (Or.inl ⟨by rfl, ?_⟩) hHeld ?_
  rotate_left
  · intro w hSw
    go_simp
    try with_reducible rfl
  try simp only [Act.put, List.setIfInBounds_toArray, List.set_cons_zero, List.set_cons_succ]
  refine wpAnyH_done (by kernel_rfl) ?_ _
  have HP4 := Lib.hid hP4
  have T4 := Lib.hid (T9.out.trans (hHeld.sub (js := [3, 4, 5, 6, 7, 9]) (by simp)))
  clear hHeld hP4 hT4 HL9 HP9 T9 HX9
  by_cases h0 : r = 0
  · subst h0
    go_wp2
    go_ret
    exact ⟨rfl, HP4.out, T4.out⟩
  · go_wp2
    go_ret
    exact ⟨rfl, HP4.out, T4.out⟩
end
end Go.Proofs.YtpanmfdbdgecaaaGreat.C

namespace Go.Proofs.YtpanmfdbdgecaaaGreat.C
open Go.RowKit
set_option linter.unusedVariables false
theorem calls_hide {P : Program} {f : Nat} {args : Array Value} {w : World} {R : Ending → World → Prop} (h : ∀ Q : Ending → World → Prop, Hid (∀ e w', R e w' → Q e w') → Calls P f args w Q) : Calls P f args w R := h R (Lib.hid fun _ _ x => x)
def exc (f : Nat → Nat) (b t : Nat) : Nat → Nat := fun k => if k = b then t else f k
theorem exc_ne {f : Nat → Nat} {b t k : Nat} (h : k ≠ b) : exc f b t k = f k := if_neg h
theorem Tur.exc {f : Nat → Nat} {ks : List Nat} {a c : World} (p : Tur f ks a c) {b t : Nat} (ht : t ∈ ks) : Tur (exc f b t) ks a c := ⟨p.os, p.tape, p.output, p.size, fun k hk hn => p.block k hk (fun hm => hn (by
  unfold C.exc
  split
  · exact ht
  · exact hm))⟩
theorem Tur.set {f : Nat → Nat} {ks : List Nat} {a c : World} {b j t : Nat} {v : Value} (p : Tur (C.exc f b t) ks a c) (ht : t ∈ ks) : Tur (C.exc f b t) ks a (c.setCell ⟨b, j, none⟩ v) := p.trans (Tur.of_two (Two.setCell (g := b) (h := b) (x := ⟨b, j, none⟩) (Two.refl _ _ c) (.inl rfl) v) (by simpa [C.exc] using ht) (by simpa [C.exc] using ht))
section
variable {w : World} {A : PAd} {F : PCf} {S S1 S2 : PSt}
/-- The packet with its number. -/
def seqX (x : Array Value) (a : Int) : Array Value := x.setIfInBounds 0 (.int .i64 a)
theorem PkP.seq {x p : Array Value} {n : Int} (h : PkP x n p) (a : Int) : PkP (seqX x a) n p := by
  refine ⟨⟨⟨?_, ?_⟩, ?_⟩, ?_⟩
  · rw [seqX, Array.size_setIfInBounds]
    exact h.l.pk.size
  · have ho := h.l.pk.one
    rw [Array.all_eq_true] at ho ⊢
    intro i hi
    rw [seqX, Array.size_setIfInBounds] at hi
    simp only [seqX, Array.getElem_setIfInBounds hi]
    split
    · rfl
    · exact ho i hi
  · rw [seqX, Array.getElem?_setIfInBounds_ne (by omega)]
    exact h.l.len
  · rw [← h.pre]
    apply Array.ext_getElem?
    intro i
    have hs := h.l.pk.size
    rw [Array.getElem?_extract, Array.getElem?_extract, seqX, Array.size_setIfInBounds]
    split
    · rw [Array.getElem?_setIfInBounds_ne (by omega)]
    · rfl
theorem PkP.c0 {x p : Array Value} {n : Int} (h : PkP x n p) (a : Int) : (seqX x a)[0]? = some (.int .i64 a) := by
  have hs := h.l.pk.size
  rw [seqX, Array.getElem?_setIfInBounds_self_of_lt (by omega)]
def VZ : Array Value := #[.int .i64 0, .int .i64 0, .int .i64 0, .int .i64 0, .bool false, .bool false]
theorem vz_zero : (Tryz.prog.info? 35).map (fun i => (i.zero, i.size)) = some (some (.agg VZ), 6) := by kernel_rfl
set_option maxRecDepth 100000 in
set_option maxHeartbeats 4000000 in
theorem arrive_put (n now r : Int) (x p : Array Value) (dr : Array Value) (S3 S4 S5 : Nat → PSt) (hx : PkP x n p) (hp : p.size = 8) (hn : 1 ≤ n ∧ n ≤ 9216) (h : Pol w A F S) (hr : 0 ≤ r ∧ r ≤ 100) (har : 0 ≤ S.arr ∧ S.arr ≤ 4611686018427387904)
    (hwa : ∀ w', Pol w' A F { S with arr := S.arr + 1 } → Calls Tryz.prog 37 #[.pointer (some ⟨A.wb, 0, none⟩), .int .i64 now, .agg p, .int .i64 n] w' fun e w'' => e = .returned (.bool true) ∧ Pol w'' A F S1 ∧ Tur A.tg [8] w' w'')
    (hin : ∀ w', Pol w' A F S1 → Calls Tryz.prog 38 #[.pointer (some ⟨A.xb, 0, none⟩), .agg p, .int .i64 now] w' fun e w'' => e = .returned (.bool false) ∧ Pol w'' A F S2 ∧ Tur A.tg [9] w' w'')
    (hpu : ∀ w', Pol w' A F S2 → Calls Tryz.prog 39 #[.pointer (some ⟨A.xb, 0, none⟩), .agg p, .int .i64 now] w' fun e w'' => e = .returned (.int .i64 0) ∧ ∃ tb lim, w'.heap.size ≤ tb ∧ Pol w'' (A.more tb lim) F (S3 tb) ∧ Tur A.tg [9] w' w'')
    (hi2 : ∀ w' tb lim, Pol w' (A.more tb lim) F (S3 tb) → Calls Tryz.prog 38 #[.pointer (some ⟨A.xb, 0, none⟩), .agg p, .int .i64 now] w' fun e w'' => e = .returned (.bool true) ∧ Pol w'' (A.more tb lim) F (S4 tb) ∧ Tur (A.more tb lim).tg [9] w' w'')
    (hbo : ∀ w' tb lim, Pol w' (A.more tb lim) F (S4 tb) → Calls Tryz.prog 41 #[.pointer (some ⟨A.pb, 0, none⟩), .agg (seqX x S.arr), .int .i64 now] w' fun e w'' => e = .returned (.int .i64 r) ∧ Pol w'' (A.more tb lim) F (S5 tb) ∧ Tur (A.more tb lim).tg [3, 4, 5, 6, 7, 9] w' w'') :
    Calls Tryz.prog 20 #[.pointer (some ⟨A.pb, 0, none⟩), .agg x, .int .i64 now, .agg dr] w fun e w' => ∃ tb lim, e = .returned (.agg #[.int .i64 S.arr, .int .i64 r, .int .i64 (if r = 0 then 2 * F.c 0 else -1), .int .i64 (-1), .bool true, .bool false]) ∧ Pol w' (A.more tb lim) F (S5 tb) ∧ Tur A.tg [1, 3, 4, 5, 6, 7, 8, 9] w w' ∧ w.heap.size ≤ tb := by
  obtain ⟨har0, har1⟩ := har
  have hwr : IntKind.i64.wrap (S.arr + 1) = S.arr + 1 := IntWalk.i64_in _ (by omega)
  obtain ⟨ar, hara⟩ : ∃ a, S.arr = a := ⟨_, rfl⟩
  rw [hara] at har0 har1 hwr hwa hbo ⊢
  have HWA := Lib.hid hwa
  have HIN := Lib.hid hin
  have HPU := Lib.hid hpu
  have HI2 := Lib.hid hi2
  have HBO := Lib.hid hbo
  clear hwa hin hpu hi2 hbo
  have CPE : Hid (∀ w' tb lim S', Pol w' (A.more tb lim) F S' → Calls Tryz.prog 40 #[.pointer (some ⟨A.pb, 0, none⟩)] w' fun e w'' => e = .returned (.int .i64 (2 * F.c 0)) ∧ w'' = w') := Lib.hid fun w' tb lim S' q => police_penalty (A := A.more tb lim) q
  generalize 2 * F.c 0 = pc at *
  have HX0 := Lib.hid hx
  have HP := Lib.hid h
  have HL := Lib.hid hx.l.len
  obtain ⟨hn0, hn1⟩ := hn
  obtain ⟨VZ0, hVZ⟩ : ∃ z, VZ = z := ⟨_, rfl⟩
  have hvz := vz_zero
  rw [hVZ] at hvz
  have HVZ := Lib.hid hvz
  have HVE := Lib.hid hVZ
  clear h hx hvz hVZ
  refine calls_hide fun Q HQ => ?_
  go_enter Tryz.func20, Tryz.ntmps20
  go_upto_region 1 with (first | ((with_reducible refine arm_box 5 1 68 x ?_ ?_); rfl; intro w1 HB HX HS) | ((with_reducible refine arm_box 7 3 41 dr ?_ ?_); rfl; intro w2 HB2 HX2 HS2) | ((with_reducible refine arm_alloc 8 35 VZ0 6 HVZ.out ?_); intro w3 HB3 HX3 HS3))
  have k1 := cells_of_row (keep_block HB3.out (keep_block HB2.out HX.out)) 45 _ HL.out
  go_upto_region 3 with (fail)
  have B3 := Lib.hid ((HB.out.trans (HB2.out.mono HB.out.size)).trans (HB3.out.mono (Nat.le_trans HB.out.size HB2.out.size)))
  have X3 := Lib.hid (keep_block HB3.out (keep_block HB2.out HX.out))
  have R3 := Lib.hid HX3.out
  have hs1 := HS.out
  have hs2 := HS2.out
  have hs3 := HS3.out
  have hlim := HP.out.lim
  have HP3 := Lib.hid (HP.out.below B3.out)
  have k28 := HP3.out.c28
  obtain ⟨x0, hx0⟩ : ∃ v, x[0]? = some v := ⟨_, Array.getElem?_eq_getElem (by have := HX0.out.l.pk.size; omega)⟩
  have cx3 := cells_of_row X3.out 0 _ hx0
  have fx3 : w3.frozen? ⟨w.heap.size, 0, none⟩ = false := frozen_of_row _ _ _ _ _ X3.out
  rw [hara] at k28
  generalize w2.heap.size = rb at *
  clear HB HX HB2 HX2 HB3 HX3 k1 HS HS2 HS3
  go_upto_region 4 with (fail)
  have HPX := Lib.hid (HX0.out.seq ar)
  have hXC := HX0.out.c0 ar
  have X4 : Hid ((w3.setCell ⟨w.heap.size, 0, none⟩ (.int .i64 ar)).heap[w.heap.size]? = some (.cells (seqX x ar) 68 (0, 0))) := Lib.hid (by rw [heap_setCell_same _ _ _ _ _ _ X3.out]; rfl)
  have R4 : Hid ((w3.setCell ⟨w.heap.size, 0, none⟩ (.int .i64 ar)).heap[rb]? = some (.cells VZ0 35 (0, 0))) := Lib.hid (by rw [heap_setCell_other _ _ _ _ (by simp; omega)]; exact R3.out)
  have T4 : Tur A.tg [0] w3 (w3.setCell ⟨w.heap.size, 0, none⟩ (.int .i64 ar)) := Tur.of_two (Two.setCell (g := w.heap.size) (h := w.heap.size) (x := ⟨w.heap.size, 0, none⟩) (Two.refl _ _ w3) (.inl rfl) (.int .i64 ar)) (by simp [HP.out.ok.hi _ hlim]) (by simp [HP.out.ok.hi _ hlim])
  have HP4 : Hid (Pol (w3.setCell ⟨w.heap.size, 0, none⟩ (.int .i64 ar)) A F S) := Lib.hid (HP3.out.tur T4 (by intro k h1 h2; simp; omega))
  have B4 : Hid (Below w.heap.size w (w3.setCell ⟨w.heap.size, 0, none⟩ (.int .i64 ar))) := Lib.hid (B3.out.setCell (Nat.le_refl _) _)
  have hs4 : (w3.setCell ⟨w.heap.size, 0, none⟩ (.int .i64 ar)).heap.size = rb + 1 := by simpa using hs3
  clear k28 cx3 fx3 hx0 T4 B3 HP3 R3 X3 hs3
  generalize w3.setCell ⟨w.heap.size, 0, none⟩ (.int .i64 ar) = w4 at *
  have k28 := HP4.out.c28
  have f28 := HP4.out.fr 28
  rw [hara] at k28
  go_upto_region 5 with (fail)
  obtain ⟨hP5, hT5⟩ := HP4.out.setArr (ar + 1)
  have X5 : Hid ((w4.setCell ⟨A.pb, 28, none⟩ (.int .i64 (ar + 1))).heap[w.heap.size]? = some (.cells (seqX x ar) 68 (0, 0))) := Lib.hid (hT5.keep X4.out (by rw [HP.out.ok.hi _ hlim]; decide))
  have R5 : Hid ((w4.setCell ⟨A.pb, 28, none⟩ (.int .i64 (ar + 1))).heap[rb]? = some (.cells VZ0 35 (0, 0))) := Lib.hid (hT5.keep R4.out (by rw [HP.out.ok.hi _ (by omega)]; decide))
  have HP5 := Lib.hid hP5
  have T5 : Hid (Tur A.tg [1, 3, 4, 5, 6, 7, 8, 9] w (w4.setCell ⟨A.pb, 28, none⟩ (.int .i64 (ar + 1)))) := Lib.hid ((Tur.of_below B4.out).trans (hT5.sub (by simp)))
  have hs5 : (w4.setCell ⟨A.pb, 28, none⟩ (.int .i64 (ar + 1))).heap.size = rb + 1 := by simpa using hs4
  clear k28 f28 hP5 hT5 X4 R4 HP4 B4 hs4
  generalize w4.setCell ⟨A.pb, 28, none⟩ (.int .i64 (ar + 1)) = w5 at *
  have k0 := cells_of_row X5.out 0 _ hXC
  have HS5 := Lib.hid (And.intro hs5 (And.intro hs1 hs2))
  clear hs5 hs1 hs2
  go_upto_region 6 with (fail)
  have p6 : Below w5.heap.size w5 (w5.alloc (.cells #[.int .i64 ar, .int .i64 0, .int .i64 (-1), .int .i64 (-1), .bool false, .bool false] 35)) := (Below.refl _ _).alloc (Nat.le_refl _) _
  have V6 := Lib.hid (Go.heap_alloc_new w5 (.cells #[.int .i64 ar, .int .i64 0, .int .i64 (-1), .int .i64 (-1), .bool false, .bool false] 35))
  have HP6 := Lib.hid (HP5.out.below p6)
  have X6 := Lib.hid (keep_block p6 X5.out)
  have R6 := Lib.hid (keep_block p6 R5.out)
  have T6 := Lib.hid (T5.out.below p6)
  clear k0 p6 X5 R5 HP5 T5
  generalize w5.alloc _ = w6 at *
  generalize w5.heap.size = vb at *
  have hbx : w.heap.size < rb := by have := HS5.out; omega
  have hvb : rb < vb := by have := HS5.out; omega
  clear HS5
  have hz1 : A.tg w.heap.size = 0 := HP.out.ok.hi _ hlim
  have hz2 : A.tg rb = 0 := HP.out.ok.hi _ (by omega)
  have hz3 : A.tg vb = 0 := HP.out.ok.hi _ (by omega)
  have HL1 : Hid (∀ w', Tur A.tg [8] w6 w' → w'.cell? ⟨A.pb, 26, none⟩ = some (.pointer (some ⟨A.wb, 0, none⟩)) ∧ w'.cell? ⟨w.heap.size, 45, none⟩ = some (.int .i64 n) ∧ (Instr.loadAt 65 (.pointer (some ⟨w.heap.size, 37, none⟩))).run Tryz.prog w' = .ok (.agg p) w') := Lib.hid fun w' q =>
    have hb := q.keep X6.out (by rw [hz1]; decide)
    ⟨cells_of_row ((HP6.out.rest q).ptr (by decide)) 26 _ (polC_hi HP6.out 6), cells_of_row hb 45 _ HPX.out.l.len, HPX.out.load hp hb⟩
  go_wp2_with fail
  refine wp_region_held_drew (S := Tur A.tg [8] w6) (by kernel_rfl) (Tur.refl _ _ _).drew (fun hHeld => ?_)
  refine wpAnyH_take (i := 0) (oi := ⟨some 39, _, _, _, _, _⟩) (v := ?_) rfl (by kernel_rfl) (by kernel_rfl) (by kernel_rfl) (fun _ _ _ h => h) (Or.inl ⟨by rfl, ?_⟩) hHeld ?_
  rotate_left
  · intro w hSw
    go_simp
    try with_reducible rfl
  try simp only [Act.put, List.setIfInBounds_toArray, List.set_cons_zero, List.set_cons_succ]
  refine wpAnyH_take (i := 1) (oi := ⟨some 40, _, _, _, _, _⟩) (v := ?_) rfl (by kernel_rfl) (by kernel_rfl) (by kernel_rfl) (fun _ _ _ h => h) (Or.inl ⟨by rfl, ?_⟩) hHeld ?_
  rotate_left
  · intro w hSw
    go_simp
    try with_reducible rfl
  try simp only [Act.put, List.setIfInBounds_toArray, List.set_cons_zero, List.set_cons_succ]
  refine wpAnyH_take (i := 2) (oi := ⟨some 41, _, _, _, _, _⟩) (v := ?_) rfl (by kernel_rfl) (by kernel_rfl) (by kernel_rfl) (fun _ _ _ h => h) (Or.inl ⟨by rfl, ?_⟩) hHeld ?_
  rotate_left
  · intro w hSw
    go_simp
    try with_reducible rfl
  try simp only [Act.put, List.setIfInBounds_toArray, List.set_cons_zero, List.set_cons_succ]
  refine wpAnyH_take (i := 3) (oi := ⟨some 42, _, _, _, _, _⟩) (v := ?_) rfl (by kernel_rfl) (by kernel_rfl) (by kernel_rfl) (fun _ _ _ h => h) (Or.inl ⟨by rfl, ?_⟩) hHeld ?_
  rotate_left
  · intro w hSw
    obtain ⟨k0, k1, _⟩ := HL1.out w hSw
    go_simp
    try with_reducible rfl
  try simp only [Act.put, List.setIfInBounds_toArray, List.set_cons_zero, List.set_cons_succ]
  refine wpAnyH_take (i := 4) (oi := ⟨some 43, _, _, _, _, _⟩) (v := ?_) rfl (by kernel_rfl) (by kernel_rfl) (by kernel_rfl) (fun _ _ _ h => h) (Or.inl ⟨by rfl, ?_⟩) hHeld ?_
  rotate_left
  · intro w hSw
    go_simp
    try with_reducible rfl
  try simp only [Act.put, List.setIfInBounds_toArray, List.set_cons_zero, List.set_cons_succ]
  refine wpAnyH_take (i := 5) (oi := ⟨some 44, _, _, _, _, _⟩) (v := ?_) rfl (by kernel_rfl) (by kernel_rfl) (by kernel_rfl) (fun _ _ _ h => h) (Or.inl ⟨by rfl, ?_⟩) hHeld ?_
  rotate_left
  · intro w hSw
    go_simp
    try with_reducible rfl
  try simp only [Act.put, List.setIfInBounds_toArray, List.set_cons_zero, List.set_cons_succ]
  refine wpAnyH_take (i := 6) (oi := ⟨some 45, _, _, _, _, _⟩) (v := .agg p) rfl (by kernel_rfl) (by kernel_rfl) (by kernel_rfl) (fun _ _ _ h => h) (Or.inl ⟨by rfl, fun w hSw => exec_load rfl (HL1.out w hSw).2.2⟩) hHeld ?_
  try simp only [Act.put, List.setIfInBounds_toArray, List.set_cons_zero, List.set_cons_succ]
  refine wpAnyH_take (i := 7) (oi := ⟨some 46, _, _, _, _, _⟩) (v := ?_) rfl (by kernel_rfl) (by kernel_rfl) (by kernel_rfl) (fun _ _ _ h => h) (Or.inl ⟨by rfl, ?_⟩) hHeld ?_
  rotate_left
  · intro w hSw
    go_simp
    try with_reducible rfl
  try simp only [Act.put, List.setIfInBounds_toArray, List.set_cons_zero, List.set_cons_succ]
  refine wpAnyH_take (i := 8) (oi := ⟨some 47, _, _, _, _, _⟩) (v := ?_) rfl (by kernel_rfl) (by kernel_rfl) (by kernel_rfl) (fun _ _ _ h => h) (Or.inl ⟨by rfl, ?_⟩) hHeld ?_
  rotate_left
  · intro w hSw
    obtain ⟨k0, k1, _⟩ := HL1.out w hSw
    go_simp
    try with_reducible rfl
  try simp only [Act.put, List.setIfInBounds_toArray, List.set_cons_zero, List.set_cons_succ]
  refine wpAnyH_ready (rs := [9]) (by kernel_rfl) (by simp) ?_
  refine AllReadyH.cons rfl (fun K hK => ?_) AllReadyH.nil
  go_simp
  go_wp2_with (go_at_call 37; go_must (refine (HWA.out _ HP6.out.drew).mono ?_; rintro e w9 ⟨rfl, hP9, hT9⟩))
  refine hK.out _ _ (hHeld.trans hT9) (fun hHeld => ?_)
  clear hK K
  refine wpAnyH_take (i := 10) (oi := ⟨some 10, _, _, _, _, _⟩) (v := ?_) rfl (by kernel_rfl) (by kernel_rfl) (by kernel_rfl) (fun _ _ _ h => h) (Or.inl ⟨by rfl, ?_⟩) hHeld ?_
  rotate_left
  · intro w hSw
    go_simp
    try with_reducible rfl
  try simp only [Act.put, List.setIfInBounds_toArray, List.set_cons_zero, List.set_cons_succ]
  refine wpAnyH_done (by kernel_rfl) ?_ _
  have HP9 := Lib.hid hP9
  have X9 := Lib.hid (hHeld.keep X6.out (by rw [hz1]; decide))
  have R9 := Lib.hid (hHeld.keep R6.out (by rw [hz2]; decide))
  have V9 := Lib.hid (hHeld.keep V6.out (by rw [hz3]; decide))
  have T9 := Lib.hid (T6.out.trans (hHeld.sub (js := [1, 3, 4, 5, 6, 7, 8, 9]) (by simp)))
  have hsz9 := Nat.lt_of_lt_of_le (Array.getElem?_eq_some_iff.1 V6.out).1 hHeld.size
  clear hHeld hP9 hT9 HL1 HP6 X6 R6 V6 T6 HWA
  generalize w9 = wa at *
  have HL9 : Hid (∀ w', Tur (C.exc A.tg vb 9) [9] wa w' → w'.cell? ⟨A.pb, 27, none⟩ = some (.pointer (some ⟨A.xb, 0, none⟩)) ∧ (Instr.loadAt 65 (.pointer (some ⟨w.heap.size, 37, none⟩))).run Tryz.prog w' = .ok (.agg p) w') := Lib.hid fun w' q =>
    have hb := q.keep X9.out (by rw [exc_ne (by omega), hz1]; decide)
    have ho := HP9.out.ok.pb
    ⟨cells_of_row (q.keep HP9.out.ptr (by rw [exc_ne (by rintro rfl; omega), ho]; decide)) 27 _ (polC_hi HP9.out 7), HPX.out.load hp hb⟩
  go_wp2_with fail
  refine wp_region_held_drew (S := Tur A.tg [9] wa) (by kernel_rfl) (Tur.refl _ _ _).drew (fun hHeld => ?_)
  refine wpAnyH_take (i := 0) (oi := ⟨some 49, _, _, _, _, _⟩) (v := ?_) rfl (by kernel_rfl) (by kernel_rfl) (by kernel_rfl) (fun _ _ _ h => h) (Or.inl ⟨by rfl, ?_⟩) hHeld ?_
  rotate_left
  · intro w hSw
    go_simp
    try with_reducible rfl
  try simp only [Act.put, List.setIfInBounds_toArray, List.set_cons_zero, List.set_cons_succ]
  refine wpAnyH_take (i := 1) (oi := ⟨some 50, _, _, _, _, _⟩) (v := ?_) rfl (by kernel_rfl) (by kernel_rfl) (by kernel_rfl) (fun _ _ _ h => h) (Or.inl ⟨by rfl, ?_⟩) hHeld ?_
  rotate_left
  · intro w hSw
    go_simp
    try with_reducible rfl
  try simp only [Act.put, List.setIfInBounds_toArray, List.set_cons_zero, List.set_cons_succ]
  refine wpAnyH_take (i := 2) (oi := ⟨some 51, _, _, _, _, _⟩) (v := ?_) rfl (by kernel_rfl) (by kernel_rfl) (by kernel_rfl) (fun _ _ _ h => h) (Or.inl ⟨by rfl, ?_⟩) hHeld ?_
  rotate_left
  · intro w hSw
    go_simp
    try with_reducible rfl
  try simp only [Act.put, List.setIfInBounds_toArray, List.set_cons_zero, List.set_cons_succ]
  refine wpAnyH_take (i := 3) (oi := ⟨some 52, _, _, _, _, _⟩) (v := ?_) rfl (by kernel_rfl) (by kernel_rfl) (by kernel_rfl) (fun _ _ _ h => h) (Or.inl ⟨by rfl, ?_⟩) hHeld ?_
  rotate_left
  · intro w hSw
    go_simp
    try with_reducible rfl
  try simp only [Act.put, List.setIfInBounds_toArray, List.set_cons_zero, List.set_cons_succ]
  refine wpAnyH_take (i := 4) (oi := ⟨some 53, _, _, _, _, _⟩) (v := ?_) rfl (by kernel_rfl) (by kernel_rfl) (by kernel_rfl) (fun _ _ _ h => h) (Or.inl ⟨by rfl, ?_⟩) hHeld ?_
  rotate_left
  · intro w hSw
    go_simp
    try with_reducible rfl
  try simp only [Act.put, List.setIfInBounds_toArray, List.set_cons_zero, List.set_cons_succ]
  refine wpAnyH_take (i := 5) (oi := ⟨some 54, _, _, _, _, _⟩) (v := ?_) rfl (by kernel_rfl) (by kernel_rfl) (by kernel_rfl) (fun _ _ _ h => h) (Or.inl ⟨by rfl, ?_⟩) hHeld ?_
  rotate_left
  · intro w hSw
    obtain ⟨k0, _⟩ := HL9.out w (hSw.exc (by decide))
    go_simp
    try with_reducible rfl
  try simp only [Act.put, List.setIfInBounds_toArray, List.set_cons_zero, List.set_cons_succ]
  refine wpAnyH_take (i := 6) (oi := ⟨some 55, _, _, _, _, _⟩) (v := ?_) rfl (by kernel_rfl) (by kernel_rfl) (by kernel_rfl) (fun _ _ _ h => h) (Or.inl ⟨by rfl, ?_⟩) hHeld ?_
  rotate_left
  · intro w hSw
    go_simp
    try with_reducible rfl
  try simp only [Act.put, List.setIfInBounds_toArray, List.set_cons_zero, List.set_cons_succ]
  refine wpAnyH_take (i := 7) (oi := ⟨some 56, _, _, _, _, _⟩) (v := .agg p) rfl (by kernel_rfl) (by kernel_rfl) (by kernel_rfl) (fun _ _ _ h => h) (Or.inl ⟨by rfl, fun w hSw => exec_load rfl (HL9.out w (hSw.exc (by decide))).2⟩) hHeld ?_
  try simp only [Act.put, List.setIfInBounds_toArray, List.set_cons_zero, List.set_cons_succ]
  refine wpAnyH_take (i := 8) (oi := ⟨some 57, _, _, _, _, _⟩) (v := ?_) rfl (by kernel_rfl) (by kernel_rfl) (by kernel_rfl) (fun _ _ _ h => h) (Or.inl ⟨by rfl, ?_⟩) hHeld ?_
  rotate_left
  · intro w hSw
    go_simp
    try with_reducible rfl
  try simp only [Act.put, List.setIfInBounds_toArray, List.set_cons_zero, List.set_cons_succ]
  refine wpAnyH_ready (rs := [9]) (by kernel_rfl) (by simp) ?_
  refine AllReadyH.cons rfl (fun K hK => ?_) AllReadyH.nil
  go_simp
  go_wp2_with (go_at_call 38; go_must (refine (HIN.out _ HP9.out.drew).mono ?_; rintro e w9 ⟨rfl, hP10, hT10⟩))
  refine hK.out _ _ (hHeld.trans hT10) (fun hHeld => ?_)
  clear hK K
  refine wpAnyH_take (i := 10) (oi := ⟨some 59, _, _, _, _, _⟩) (v := ?_) rfl (by kernel_rfl) (by kernel_rfl) (by kernel_rfl) (fun _ _ _ h => h) (Or.inl ⟨by rfl, ?_⟩) hHeld ?_
  rotate_left
  · intro w hSw
    go_simp
    try with_reducible rfl
  try simp only [Act.put, List.setIfInBounds_toArray, List.set_cons_zero, List.set_cons_succ]
  refine wpAnyH_take (i := 11) (oi := ⟨some 60, _, _, _, _, _⟩) (v := ?_) rfl (by kernel_rfl) (by kernel_rfl) (by kernel_rfl) (fun _ _ _ h => h) (Or.inl ⟨by rfl, ?_⟩) hHeld ?_
  rotate_left
  · intro w hSw
    go_simp
    try with_reducible rfl
  try simp only [Act.put, List.setIfInBounds_toArray, List.set_cons_zero, List.set_cons_succ]
  refine wpAnyH_done (by kernel_rfl) ?_ _
  have HP10 := Lib.hid hP10
  have XA := Lib.hid (hHeld.keep X9.out (by rw [hz1]; decide))
  have RA := Lib.hid (hHeld.keep R9.out (by rw [hz2]; decide))
  have VA := Lib.hid (hHeld.keep V9.out (by rw [hz3]; decide))
  have TA := Lib.hid (T9.out.trans (hHeld.sub (js := [1, 3, 4, 5, 6, 7, 8, 9]) (by simp)))
  have hszA := Nat.lt_of_lt_of_le hsz9 hHeld.size
  clear hHeld hP10 hT10 HL9 HP9 X9 R9 V9 T9 HIN hsz9
  generalize w9 = wb at *
  have HLA : Hid (∀ w', Tur (C.exc A.tg vb 9) [9] wb w' → w'.cell? ⟨A.pb, 27, none⟩ = some (.pointer (some ⟨A.xb, 0, none⟩)) ∧ (Instr.loadAt 65 (.pointer (some ⟨w.heap.size, 37, none⟩))).run Tryz.prog w' = .ok (.agg p) w') := Lib.hid fun w' q =>
    have hb := q.keep XA.out (by rw [exc_ne (by omega), hz1]; decide)
    have ho := HP10.out.ok.pb
    ⟨cells_of_row (q.keep HP10.out.ptr (by rw [exc_ne (by rintro rfl; omega), ho]; decide)) 27 _ (polC_hi HP10.out 7), HPX.out.load hp hb⟩
  go_wp2_with fail
  refine wp_region_held_drew (S := Tur (C.exc A.tg vb 9) [9] wb) (by kernel_rfl) (Tur.refl _ _ _).drew (fun hHeld => ?_)
  refine wpAnyH_take (i := 0) (oi := ⟨some 61, _, _, _, _, _⟩) (v := ?_) rfl (by kernel_rfl) (by kernel_rfl) (by kernel_rfl) (fun _ _ _ h => h) (Or.inl ⟨by rfl, ?_⟩) hHeld ?_
  rotate_left
  · intro w hSw
    go_simp
    try with_reducible rfl
  try simp only [Act.put, List.setIfInBounds_toArray, List.set_cons_zero, List.set_cons_succ]
  refine wpAnyH_take (i := 1) (oi := ⟨some 62, _, _, _, _, _⟩) (v := ?_) rfl (by kernel_rfl) (by kernel_rfl) (by kernel_rfl) (fun _ _ _ h => h) (Or.inl ⟨by rfl, ?_⟩) hHeld ?_
  rotate_left
  · intro w hSw
    go_simp
    try with_reducible rfl
  try simp only [Act.put, List.setIfInBounds_toArray, List.set_cons_zero, List.set_cons_succ]
  refine wpAnyH_take (i := 2) (oi := ⟨some 63, _, _, _, _, _⟩) (v := ?_) rfl (by kernel_rfl) (by kernel_rfl) (by kernel_rfl) (fun _ _ _ h => h) (Or.inl ⟨by rfl, ?_⟩) hHeld ?_
  rotate_left
  · intro w hSw
    go_simp
    try with_reducible rfl
  try simp only [Act.put, List.setIfInBounds_toArray, List.set_cons_zero, List.set_cons_succ]
  refine wpAnyH_take (i := 3) (oi := ⟨some 64, _, _, _, _, _⟩) (v := ?_) rfl (by kernel_rfl) (by kernel_rfl) (by kernel_rfl) (fun _ _ _ h => h) (Or.inl ⟨by rfl, ?_⟩) hHeld ?_
  rotate_left
  · intro w hSw
    obtain ⟨k0, _⟩ := HLA.out w hSw
    go_simp
    try with_reducible rfl
  try simp only [Act.put, List.setIfInBounds_toArray, List.set_cons_zero, List.set_cons_succ]
  refine wpAnyH_take (i := 4) (oi := ⟨some 65, _, _, _, _, _⟩) (v := ?_) rfl (by kernel_rfl) (by kernel_rfl) (by kernel_rfl) (fun _ _ _ h => h) (Or.inl ⟨by rfl, ?_⟩) hHeld ?_
  rotate_left
  · intro w hSw
    go_simp
    try with_reducible rfl
  try simp only [Act.put, List.setIfInBounds_toArray, List.set_cons_zero, List.set_cons_succ]
  refine wpAnyH_take (i := 5) (oi := ⟨some 66, _, _, _, _, _⟩) (v := .agg p) rfl (by kernel_rfl) (by kernel_rfl) (by kernel_rfl) (fun _ _ _ h => h) (Or.inl ⟨by rfl, fun w hSw => exec_load rfl (HLA.out w hSw).2⟩) hHeld ?_
  try simp only [Act.put, List.setIfInBounds_toArray, List.set_cons_zero, List.set_cons_succ]
  refine wpAnyH_take (i := 6) (oi := ⟨some 67, _, _, _, _, _⟩) (v := ?_) rfl (by kernel_rfl) (by kernel_rfl) (by kernel_rfl) (fun _ _ _ h => h) (Or.inl ⟨by rfl, ?_⟩) hHeld ?_
  rotate_left
  · intro w hSw
    go_simp
    try with_reducible rfl
  try simp only [Act.put, List.setIfInBounds_toArray, List.set_cons_zero, List.set_cons_succ]
  refine wpAnyH_ready (rs := [7]) (by kernel_rfl) (by simp) ?_
  refine AllReadyH.cons rfl (fun K hK => ?_) AllReadyH.nil
  go_simp
  go_wp2_with (go_at_call 39; go_must (refine (HPU.out _ HP10.out.drew).mono ?_; rintro e w7 ⟨rfl, tb, lim, hge, hP7, hT7⟩))
  refine hK.out _ _ (hHeld.trans (hT7.exc (by decide))) (fun hHeld => ?_)
  clear hK K
  refine wpAnyH_take (i := 8) (oi := ⟨some 69, _, _, _, _, _⟩) (v := ?_) rfl (by kernel_rfl) (by kernel_rfl) (by kernel_rfl) (fun _ _ _ h => h) (Or.inl ⟨by rfl, ?_⟩) hHeld ?_
  rotate_left
  · intro w hSw
    go_simp
    try with_reducible rfl
  try simp only [Act.put, List.setIfInBounds_toArray, List.set_cons_zero, List.set_cons_succ]
  refine wpAnyH_take (i := 9) (oi := ⟨some 70, _, _, _, _, _⟩) (v := ?_) rfl (by kernel_rfl) (by kernel_rfl) (by kernel_rfl) (fun _ _ _ h => h) (Or.inl ⟨by rfl, ?_⟩) hHeld ?_
  rotate_left
  · intro w hSw
    go_simp
    try with_reducible rfl
  try simp only [Act.put, List.setIfInBounds_toArray, List.set_cons_zero, List.set_cons_succ]
  have hTB : Tur A.tg [9] wb w7 := (Tur.refl _ _ wb).drew.trans hT7
  have VB := Lib.hid (hTB.keep VA.out (by rw [hz3]; decide))
  have c4 := cells_of_row VB.out 4 _ rfl
  have f4 : w7.frozen? ⟨vb, 4, none⟩ = false := frozen_of_row _ _ _ _ _ VB.out
  refine wpAnyH_ready (rs := [10]) (by kernel_rfl) (by simp) ?_
  refine AllReadyH.cons rfl (fun K hK => ?_) AllReadyH.nil
  go_simp
  refine hK.out _ _ (hHeld.set (by decide)) (fun hHeld => ?_)
  clear hK K
  refine wpAnyH_done (by kernel_rfl) ?_ _
  have hlt2 : wb.heap.size ≤ tb := hge
  have hwb : vb < tb := by omega
  obtain ⟨A', hA'⟩ : ∃ a, A.more tb lim = a := ⟨_, rfl⟩
  have hag : ∀ k, k < wb.heap.size → A'.tg k = A.tg k := fun k hk => by rw [← hA']; exact PAd.more_tg (by omega)
  have hapb : A'.pb = A.pb := by rw [← hA']; rfl
  have haxb : A'.xb = A.xb := by rw [← hA']; rfl
  have HIN2 := Lib.hid (fun w' => HI2.out w' tb lim)
  have HBX2 := Lib.hid (fun w' => HBO.out w' tb lim)
  have CPE2 := Lib.hid (fun w' => CPE.out w' tb lim)
  have XB := Lib.hid (hTB.keep XA.out (by rw [hz1]; decide))
  have RB := Lib.hid (hTB.keep RA.out (by rw [hz2]; decide))
  have TB := Lib.hid (TA.out.trans (hTB.sub (js := [1, 3, 4, 5, 6, 7, 8, 9]) (by simp)))
  rw [hA'] at hP7 HIN2 HBX2 CPE2
  have hy1 : A'.tg w.heap.size = 0 := by rw [hag _ (by omega)]; exact hz1
  have hy2 : A'.tg rb = 0 := by rw [hag _ (by omega)]; exact hz2
  have hy3 : A'.tg vb = 0 := by rw [hag _ (by omega)]; exact hz3
  have hag2 : ∀ k, k < w.heap.size → A'.tg k = A.tg k := fun k hk => hag k (by omega)
  have HAE := Lib.hid hA'
  have HTB : Hid (w.heap.size ≤ tb) := Lib.hid (by omega)
  have VC : Hid ((w7.setCell ⟨vb, 4, none⟩ (.bool true)).heap[vb]? = some (.cells #[.int .i64 ar, .int .i64 0, .int .i64 (-1), .int .i64 (-1), .bool true, .bool false] 35 (0, 0))) := Lib.hid (by rw [heap_setCell_same _ _ _ _ _ _ VB.out]; rfl)
  have tc : Tur A'.tg [0] w7 (w7.setCell ⟨vb, 4, none⟩ (.bool true)) := Tur.of_two (Two.setCell (g := vb) (h := vb) (x := ⟨vb, 4, none⟩) (Two.refl _ _ w7) (.inl rfl) (.bool true)) (by simp [hy3]) (by simp [hy3])
  have HP11 := Lib.hid (hP7.tur tc (by intro k h1 h2; simp; omega))
  have XC : Hid ((w7.setCell ⟨vb, 4, none⟩ (.bool true)).heap[w.heap.size]? = some (.cells (seqX x ar) 68 (0, 0))) := Lib.hid (by rw [heap_setCell_other _ _ _ _ (by simp; omega)]; exact XB.out)
  have RC : Hid ((w7.setCell ⟨vb, 4, none⟩ (.bool true)).heap[rb]? = some (.cells VZ0 35 (0, 0))) := Lib.hid (by rw [heap_setCell_other _ _ _ _ (by simp; omega)]; exact RB.out)
  have TC : Hid (Tur A.tg [1, 3, 4, 5, 6, 7, 8, 9] w (w7.setCell ⟨vb, 4, none⟩ (.bool true))) := Lib.hid (TB.out.trans2 (f := A.tg) (g := fun k => if k = vb then 1 else A.tg k) (Tur.of_two (Two.setCell (g := vb) (h := vb) (x := ⟨vb, 4, none⟩) (Two.refl _ _ w7) (.inl rfl) (.bool true)) (by simp) (by simp)) (fun k hk => if_neg (by omega)))
  clear hHeld hP7 hT7 HLA HP10 XA RA VA TA HPU hszA hge hlt2 HI2 HBO CPE hag hA' VB XB RB TB c4 f4 tc hTB
  generalize w7.setCell ⟨vb, 4, none⟩ (.bool true) = wc at *
  have c4 := cells_of_row VC.out 4 _ rfl
  have c5 := cells_of_row VC.out 5 _ rfl
  have f5 : wc.frozen? ⟨vb, 5, none⟩ = false := frozen_of_row _ _ _ _ _ VC.out
  go_upto_region 10 with (fail)
  have VD : Hid ((wc.setCell ⟨vb, 5, none⟩ (.bool false)).heap[vb]? = some (.cells #[.int .i64 ar, .int .i64 0, .int .i64 (-1), .int .i64 (-1), .bool true, .bool false] 35 (0, 0))) := Lib.hid (by rw [heap_setCell_same _ _ _ _ _ _ VC.out]; rfl)
  have td : Tur A'.tg [0] wc (wc.setCell ⟨vb, 5, none⟩ (.bool false)) := Tur.of_two (Two.setCell (g := vb) (h := vb) (x := ⟨vb, 5, none⟩) (Two.refl _ _ wc) (.inl rfl) (.bool false)) (by simp [hy3]) (by simp [hy3])
  have HP12 := Lib.hid (HP11.out.tur td (by intro k h1 h2; simp; omega))
  have XD : Hid ((wc.setCell ⟨vb, 5, none⟩ (.bool false)).heap[w.heap.size]? = some (.cells (seqX x ar) 68 (0, 0))) := Lib.hid (by rw [heap_setCell_other _ _ _ _ (by simp; omega)]; exact XC.out)
  have RD : Hid ((wc.setCell ⟨vb, 5, none⟩ (.bool false)).heap[rb]? = some (.cells VZ0 35 (0, 0))) := Lib.hid (by rw [heap_setCell_other _ _ _ _ (by simp; omega)]; exact RC.out)
  have TD : Hid (Tur A.tg [1, 3, 4, 5, 6, 7, 8, 9] w (wc.setCell ⟨vb, 5, none⟩ (.bool false))) := Lib.hid (TC.out.trans2 (f := A.tg) (g := fun k => if k = vb then 1 else A.tg k) (Tur.of_two (Two.setCell (g := vb) (h := vb) (x := ⟨vb, 5, none⟩) (Two.refl _ _ wc) (.inl rfl) (.bool false)) (by simp) (by simp)) (fun k hk => if_neg (by omega)))
  clear td c4 c5 f5 VC HP11 XC RC TC
  generalize wc.setCell ⟨vb, 5, none⟩ (.bool false) = wd at *
  have HLD : Hid (∀ w', Tur A'.tg [9] wd w' → w'.cell? ⟨A.pb, 27, none⟩ = some (.pointer (some ⟨A.xb, 0, none⟩)) ∧ (Instr.loadAt 65 (.pointer (some ⟨w.heap.size, 37, none⟩))).run Tryz.prog w' = .ok (.agg p) w') := Lib.hid fun w' q => by
    have hb := q.keep XD.out (by rw [hy1]; decide)
    have ho := HP12.out.ok.pb
    have h1 := cells_of_row (q.keep HP12.out.ptr (by rw [ho]; decide)) 27 _ (polC_hi HP12.out 7)
    rw [hapb] at h1
    rw [h1]
    refine ⟨?_, HPX.out.load hp hb⟩
    show some (Value.pointer (some ⟨A'.xb, 0, none⟩)) = _
    rw [haxb]
  go_wp2_with fail
  refine wp_region_held_drew (S := Tur A'.tg [9] wd) (by kernel_rfl) (Tur.refl _ _ _).drew (fun hHeld => ?_)
  refine wpAnyH_take (i := 0) (oi := ⟨some 75, _, _, _, _, _⟩) (v := ?_) rfl (by kernel_rfl) (by kernel_rfl) (by kernel_rfl) (fun _ _ _ h => h) (Or.inl ⟨by rfl, ?_⟩) hHeld ?_
  rotate_left
  · intro w hSw
    go_simp
    try with_reducible rfl
  try simp only [Act.put, List.setIfInBounds_toArray, List.set_cons_zero, List.set_cons_succ]
  refine wpAnyH_take (i := 1) (oi := ⟨some 76, _, _, _, _, _⟩) (v := ?_) rfl (by kernel_rfl) (by kernel_rfl) (by kernel_rfl) (fun _ _ _ h => h) (Or.inl ⟨by rfl, ?_⟩) hHeld ?_
  rotate_left
  · intro w hSw
    go_simp
    try with_reducible rfl
  try simp only [Act.put, List.setIfInBounds_toArray, List.set_cons_zero, List.set_cons_succ]
  refine wpAnyH_take (i := 2) (oi := ⟨some 77, _, _, _, _, _⟩) (v := ?_) rfl (by kernel_rfl) (by kernel_rfl) (by kernel_rfl) (fun _ _ _ h => h) (Or.inl ⟨by rfl, ?_⟩) hHeld ?_
  rotate_left
  · intro w hSw
    go_simp
    try with_reducible rfl
  try simp only [Act.put, List.setIfInBounds_toArray, List.set_cons_zero, List.set_cons_succ]
  refine wpAnyH_take (i := 3) (oi := ⟨some 78, _, _, _, _, _⟩) (v := ?_) rfl (by kernel_rfl) (by kernel_rfl) (by kernel_rfl) (fun _ _ _ h => h) (Or.inl ⟨by rfl, ?_⟩) hHeld ?_
  rotate_left
  · intro w hSw
    obtain ⟨k0, _⟩ := HLD.out w hSw
    go_simp
    try with_reducible rfl
  try simp only [Act.put, List.setIfInBounds_toArray, List.set_cons_zero, List.set_cons_succ]
  refine wpAnyH_take (i := 4) (oi := ⟨some 79, _, _, _, _, _⟩) (v := ?_) rfl (by kernel_rfl) (by kernel_rfl) (by kernel_rfl) (fun _ _ _ h => h) (Or.inl ⟨by rfl, ?_⟩) hHeld ?_
  rotate_left
  · intro w hSw
    go_simp
    try with_reducible rfl
  try simp only [Act.put, List.setIfInBounds_toArray, List.set_cons_zero, List.set_cons_succ]
  refine wpAnyH_take (i := 5) (oi := ⟨some 80, _, _, _, _, _⟩) (v := .agg p) rfl (by kernel_rfl) (by kernel_rfl) (by kernel_rfl) (fun _ _ _ h => h) (Or.inl ⟨by rfl, fun w hSw => exec_load rfl (HLD.out w hSw).2⟩) hHeld ?_
  try simp only [Act.put, List.setIfInBounds_toArray, List.set_cons_zero, List.set_cons_succ]
  refine wpAnyH_take (i := 6) (oi := ⟨some 81, _, _, _, _, _⟩) (v := ?_) rfl (by kernel_rfl) (by kernel_rfl) (by kernel_rfl) (fun _ _ _ h => h) (Or.inl ⟨by rfl, ?_⟩) hHeld ?_
  rotate_left
  · intro w hSw
    go_simp
    try with_reducible rfl
  try simp only [Act.put, List.setIfInBounds_toArray, List.set_cons_zero, List.set_cons_succ]
  refine wpAnyH_ready (rs := [7]) (by kernel_rfl) (by simp) ?_
  refine AllReadyH.cons rfl (fun K hK => ?_) AllReadyH.nil
  go_simp
  go_wp2_with (go_at_call 38; go_must (refine (HIN2.out _ HP12.out.drew).mono ?_; rintro e w7 ⟨rfl, hP7, hT7⟩))
  refine hK.out _ _ (hHeld.trans hT7) (fun hHeld => ?_)
  clear hK K
  refine wpAnyH_done (by kernel_rfl) ?_ _
  have HPE := Lib.hid hP7
  have XE := Lib.hid (hHeld.keep XD.out (by rw [hy1]; decide))
  have RE := Lib.hid (hHeld.keep RD.out (by rw [hy2]; decide))
  have VE := Lib.hid (hHeld.keep VD.out (by rw [hy3]; decide))
  have TE := Lib.hid (TD.out.trans2 (hHeld.sub (js := [1, 3, 4, 5, 6, 7, 8, 9]) (by simp)) hag2)
  clear hHeld hP7 hT7 HLD HP12 XD RD VD TD HIN2
  generalize w7 = we at *
  have c2 := cells_of_row VE.out 2 _ rfl
  have f2 : we.frozen? ⟨vb, 2, none⟩ = false := frozen_of_row _ _ _ _ _ VE.out
  go_wp2_with fail
  refine (CPE2.out _ _ HPE.out).mono ?_
  rintro e w7 ⟨rfl, rfl⟩
  go_upto_region 12 with (fail)
  have VF : Hid ((w7.setCell ⟨vb, 2, none⟩ (.int .i64 pc)).heap[vb]? = some (.cells #[.int .i64 ar, .int .i64 0, .int .i64 pc, .int .i64 (-1), .bool true, .bool false] 35 (0, 0))) := Lib.hid (by rw [heap_setCell_same _ _ _ _ _ _ VE.out]; rfl)
  have tf : Tur A'.tg [0] w7 (w7.setCell ⟨vb, 2, none⟩ (.int .i64 pc)) := Tur.of_two (Two.setCell (g := vb) (h := vb) (x := ⟨vb, 2, none⟩) (Two.refl _ _ w7) (.inl rfl) (.int .i64 pc)) (by simp [hy3]) (by simp [hy3])
  have HPF := Lib.hid (HPE.out.tur tf (by intro k h1 h2; simp; omega))
  have XF : Hid ((w7.setCell ⟨vb, 2, none⟩ (.int .i64 pc)).heap[w.heap.size]? = some (.cells (seqX x ar) 68 (0, 0))) := Lib.hid (by rw [heap_setCell_other _ _ _ _ (by simp; omega)]; exact XE.out)
  have RF : Hid ((w7.setCell ⟨vb, 2, none⟩ (.int .i64 pc)).heap[rb]? = some (.cells VZ0 35 (0, 0))) := Lib.hid (by rw [heap_setCell_other _ _ _ _ (by simp; omega)]; exact RE.out)
  have TF : Hid (Tur A.tg [1, 3, 4, 5, 6, 7, 8, 9] w (w7.setCell ⟨vb, 2, none⟩ (.int .i64 pc))) := Lib.hid (TE.out.trans2 (f := A.tg) (g := fun k => if k = vb then 1 else A.tg k) (Tur.of_two (Two.setCell (g := vb) (h := vb) (x := ⟨vb, 2, none⟩) (Two.refl _ _ w7) (.inl rfl) (.int .i64 pc)) (by simp) (by simp)) (fun k hk => if_neg (by omega)))
  clear tf c2 f2 VE HPE XE RE TE CPE2
  generalize w7.setCell ⟨vb, 2, none⟩ (.int .i64 pc) = wf at *
  have hld := pkt_load XF.out HPX.out.l.pk
  go_wp2_with ((with_reducible refine arm_loadg 87 5 68 (.pointer (some ⟨w.heap.size, 0, none⟩)) (.agg (seqX x ar)) hld ?_ ?_ ?_); rfl; rfl)
  refine (HBX2.out _ HPF.out).mono ?_
  rintro e w8 ⟨rfl, hP8, hT8⟩
  have HPG := Lib.hid hP8
  have RG := Lib.hid (hT8.keep RF.out (by rw [hy2]; decide))
  have VG := Lib.hid (hT8.keep VF.out (by rw [hy3]; decide))
  have TG := Lib.hid (TF.out.trans2 (hT8.sub (js := [1, 3, 4, 5, 6, 7, 8, 9]) (by simp)) hag2)
  clear hP8 hT8 hld HPF XF RF VF TF HBX2
  generalize w8 = wg at *
  have c1 := cells_of_row VG.out 1 _ rfl
  have f1 : wg.frozen? ⟨vb, 1, none⟩ = false := frozen_of_row _ _ _ _ _ VG.out
  go_upto_region 14 with (fail)
  have VH : Hid ((wg.setCell ⟨vb, 1, none⟩ (.int .i64 r)).heap[vb]? = some (.cells #[.int .i64 ar, .int .i64 r, .int .i64 pc, .int .i64 (-1), .bool true, .bool false] 35 (0, 0))) := Lib.hid (by rw [heap_setCell_same _ _ _ _ _ _ VG.out]; rfl)
  have th : Tur A'.tg [0] wg (wg.setCell ⟨vb, 1, none⟩ (.int .i64 r)) := Tur.of_two (Two.setCell (g := vb) (h := vb) (x := ⟨vb, 1, none⟩) (Two.refl _ _ wg) (.inl rfl) (.int .i64 r)) (by simp [hy3]) (by simp [hy3])
  have HPH := Lib.hid (HPG.out.tur th (by intro k h1 h2; simp; omega))
  have RH : Hid ((wg.setCell ⟨vb, 1, none⟩ (.int .i64 r)).heap[rb]? = some (.cells VZ0 35 (0, 0))) := Lib.hid (by rw [heap_setCell_other _ _ _ _ (by simp; omega)]; exact RG.out)
  have TH : Hid (Tur A.tg [1, 3, 4, 5, 6, 7, 8, 9] w (wg.setCell ⟨vb, 1, none⟩ (.int .i64 r))) := Lib.hid (TG.out.trans2 (f := A.tg) (g := fun k => if k = vb then 1 else A.tg k) (Tur.of_two (Two.setCell (g := vb) (h := vb) (x := ⟨vb, 1, none⟩) (Two.refl _ _ wg) (.inl rfl) (.int .i64 r)) (by simp) (by simp)) (fun k hk => if_neg (by omega)))
  clear th c1 f1 VG HPG RG TG
  generalize wg.setCell ⟨vb, 1, none⟩ (.int .i64 r) = wh at *
  have c1 := cells_of_row VH.out 1 _ rfl
  by_cases h0 : r = 0
  · subst h0
    go_upto_region 16 with (fail)
    have VI := VH
    have RI := RH
    have HPI := HPH
    have TI := TH
    clear c1
    obtain ⟨vv, hvv⟩ : ∃ z : Array Value, #[.int .i64 ar, .int .i64 0, .int .i64 pc, .int .i64 (-1), .bool true, .bool false] = z := ⟨_, rfl⟩
    have hvs : vv.size = 6 := by rw [← hvv]; rfl
    have hva : vv.all (·.oneCell') = true := by rw [← hvv]; kernel_rfl
    rw [hvv] at VI
    have HVV := Lib.hid hvv
    clear hvv
    have hvt : (Tryz.prog.info? 35).map (·.size) = some vv.size := by rw [hvs]; kernel_rfl
    have hld := box_load (t := 35) VI.out _ Tryz.underlying35 rfl hvt
    have hz6 : VZ0.size = vv.size := by rw [hvs, ← HVE.out]; rfl
    have hst := box_store (t := 35) (x := vv) RI.out hvt hva hz6
    have hbox := box_whole (cs := vv) RI.out hz6.symm
    have tj : Tur A'.tg [0] wh (World.setCells wh rb 0 vv.toList) := Tur.of_two (Two.setCells (g := rb) (h := rb) (.inl rfl) vv.toList 0 (Two.refl _ _ _)) (by simp [hy2]) (by simp [hy2])
    have HPJ := Lib.hid (HPI.out.tur tj (by intro k h1 h2; simp; omega))
    have TJ : Hid (Tur A.tg [1, 3, 4, 5, 6, 7, 8, 9] w (World.setCells wh rb 0 vv.toList)) := Lib.hid (TI.out.trans2 (f := A.tg) (g := fun k => if k = rb then 1 else A.tg k) (Tur.of_two (Two.setCells (g := rb) (h := rb) (.inl rfl) vv.toList 0 (Two.refl _ _ _)) (by simp) (by simp)) (fun k hk => if_neg (by omega)))
    have HBXX := Lib.hid hbox
    clear hbox tj
    go_wp2_with (first | ((with_reducible refine arm_load 101 9 35 _ _ hld ?_ ?_); rfl) | ((with_reducible refine arm_store 8 101 35 _ _ _ hst ?_ ?_ ?_); rfl; rfl))
    refine bodyPost_ret (results_cell_row rfl _ _ _ _ _ _ _ rfl HBXX.out Tryz.underlying35 rfl hvt) rfl ?_
    refine HQ.out _ _ ⟨tb, lim, ?_, ?_, TJ.out, HTB.out⟩
    · rw [← HVV.out]
      rfl
    · rw [HAE.out]
      exact HPJ.out
  · have c2 := cells_of_row VH.out 2 _ rfl
    have f2 : wh.frozen? ⟨vb, 2, none⟩ = false := frozen_of_row _ _ _ _ _ VH.out
    go_upto_region 16 with (fail)
    have VI : Hid ((wh.setCell ⟨vb, 2, none⟩ (.int .i64 (-1))).heap[vb]? = some (.cells #[.int .i64 ar, .int .i64 r, .int .i64 (-1), .int .i64 (-1), .bool true, .bool false] 35 (0, 0))) := Lib.hid (by rw [heap_setCell_same _ _ _ _ _ _ VH.out]; rfl)
    have ti : Tur A'.tg [0] wh (wh.setCell ⟨vb, 2, none⟩ (.int .i64 (-1))) := Tur.of_two (Two.setCell (g := vb) (h := vb) (x := ⟨vb, 2, none⟩) (Two.refl _ _ wh) (.inl rfl) (.int .i64 (-1))) (by simp [hy3]) (by simp [hy3])
    have HPI := Lib.hid (HPH.out.tur ti (by intro k h1 h2; simp; omega))
    have RI : Hid ((wh.setCell ⟨vb, 2, none⟩ (.int .i64 (-1))).heap[rb]? = some (.cells VZ0 35 (0, 0))) := Lib.hid (by rw [heap_setCell_other _ _ _ _ (by simp; omega)]; exact RH.out)
    have TI : Hid (Tur A.tg [1, 3, 4, 5, 6, 7, 8, 9] w (wh.setCell ⟨vb, 2, none⟩ (.int .i64 (-1)))) := Lib.hid (TH.out.trans2 (f := A.tg) (g := fun k => if k = vb then 1 else A.tg k) (Tur.of_two (Two.setCell (g := vb) (h := vb) (x := ⟨vb, 2, none⟩) (Two.refl _ _ wh) (.inl rfl) (.int .i64 (-1))) (by simp) (by simp)) (fun k hk => if_neg (by omega)))
    clear ti c1 c2 f2 VH HPH RH TH
    generalize wh.setCell ⟨vb, 2, none⟩ (.int .i64 (-1)) = wi at *
    obtain ⟨vv, hvv⟩ : ∃ z : Array Value, #[.int .i64 ar, .int .i64 r, .int .i64 (-1), .int .i64 (-1), .bool true, .bool false] = z := ⟨_, rfl⟩
    have hvs : vv.size = 6 := by rw [← hvv]; rfl
    have hva : vv.all (·.oneCell') = true := by rw [← hvv]; kernel_rfl
    rw [hvv] at VI
    have HVV := Lib.hid hvv
    clear hvv
    have hvt : (Tryz.prog.info? 35).map (·.size) = some vv.size := by rw [hvs]; kernel_rfl
    have hld := box_load (t := 35) VI.out _ Tryz.underlying35 rfl hvt
    have hz6 : VZ0.size = vv.size := by rw [hvs, ← HVE.out]; rfl
    have hst := box_store (t := 35) (x := vv) RI.out hvt hva hz6
    have hbox := box_whole (cs := vv) RI.out hz6.symm
    have tj : Tur A'.tg [0] wi (World.setCells wi rb 0 vv.toList) := Tur.of_two (Two.setCells (g := rb) (h := rb) (.inl rfl) vv.toList 0 (Two.refl _ _ _)) (by simp [hy2]) (by simp [hy2])
    have HPJ := Lib.hid (HPI.out.tur tj (by intro k h1 h2; simp; omega))
    have TJ : Hid (Tur A.tg [1, 3, 4, 5, 6, 7, 8, 9] w (World.setCells wi rb 0 vv.toList)) := Lib.hid (TI.out.trans2 (f := A.tg) (g := fun k => if k = rb then 1 else A.tg k) (Tur.of_two (Two.setCells (g := rb) (h := rb) (.inl rfl) vv.toList 0 (Two.refl _ _ _)) (by simp) (by simp)) (fun k hk => if_neg (by omega)))
    have HBXX := Lib.hid hbox
    clear hbox tj
    go_wp2_with (first | ((with_reducible refine arm_load 101 9 35 _ _ hld ?_ ?_); rfl) | ((with_reducible refine arm_store 8 101 35 _ _ _ hst ?_ ?_ ?_); rfl; rfl))
    refine bodyPost_ret (results_cell_row rfl _ _ _ _ _ _ _ rfl HBXX.out Tryz.underlying35 rfl hvt) rfl ?_
    refine HQ.out _ _ ⟨tb, lim, ?_, ?_, TJ.out, HTB.out⟩
    · rw [← HVV.out, if_neg h0]
    · rw [HAE.out]
      exact HPJ.out
end
end Go.Proofs.YtpanmfdbdgecaaaGreat.C

namespace Go.Proofs.YtpanmfdbdgecaaaGreat.C
open Go.RowKit
set_option linter.unusedVariables false
theorem make_qrow (n : Nat) (hn : n ≤ 65536) (W : World) : (Instr.makeSlice 69 (.int .i64 (n : Int)) (.int .i64 (n : Int))).run Tryz.prog W = .ok (.slice (some ⟨W.heap.size, 0, none⟩) n n) (W.alloc (.cells (List.replicate n (Value.int .i64 0)).toArray 2)) := by
  obtain ⟨i0, hi, hz0, hz1, hz2⟩ := info_parts (show (Tryz.prog.info? 2).map (fun i => (i.zero, i.size, i.bytes)) = some (some (.int .i64 0), 1, 8) by kernel_rfl)
  have hr := run_make (P := Tryz.prog) W 69 2 i0 (.int .i64 0) Tryz.underlying69 hi hz0 .i64 .i64 n n (by omega) (by omega) (by rw [hz2]; omega) (by omega)
  simp only [Int.toNat_natCast] at hr
  rw [hr, hz1, Nat.mul_one]
  have e : madeCells (Value.int .i64 0).cells n = (List.replicate n (Value.int .i64 0)).toArray := by
    apply Array.toList_inj.1
    show (madeCells #[Value.int .i64 0] n).toList = _
    rw [toList_madeCells_one]
  rw [e]
theorem quota_new (n : Nat) (r m : Int) (w : World) (h1 : 1 ≤ n) (h2 : n ≤ 129) (hr : 0 ≤ r ∧ r ≤ 1073741824) (hm : 0 ≤ m ∧ m ≤ 1073741824) :
    Calls Tryz.prog 61 #[.int .i64 (n : Nat), .int .i64 r, .int .i64 m] w fun e w' => ∃ pb b, e = .returned (.tuple #[.pointer (some ⟨pb, 0, none⟩), .int .i64 0]) ∧ (w.heap.size ≤ pb ∧ w.heap.size ≤ b) ∧ QU.QAt w' pb b r m 0 (List.replicate n 0) ∧ Below w.heap.size w w' := by
  have hmk := make_qrow n (by omega)
  have he : (List.replicate n (Value.int .i64 0)).toArray = QU.ints (List.replicate n 0) := by simp [QU.ints]
  have hl : (List.replicate n (0 : Int)).length = n := by simp
  obtain ⟨hr0, hr1⟩ := hr
  obtain ⟨hm0, hm1⟩ := hm
  rw [he] at hmk
  generalize List.replicate n (0 : Int) = l at *
  have HLL := Lib.hid hl
  clear he hl
  obtain ⟨C, hC⟩ : ∃ z, QU.ints l = z := ⟨_, rfl⟩
  rw [hC] at hmk
  have HC := Lib.hid hC
  clear hC
  refine calls_hide fun Q HQ => ?_
  go_enter Tryz.func61, Tryz.ntmps61
  go_wp2
  refine HQ.out _ _ ⟨w.heap.size + 1, w.heap.size, rfl, ⟨by omega, Nat.le_refl _⟩, ⟨?_, ?_⟩, ((Below.refl _ _).alloc (Nat.le_refl _) _).alloc (by simp) _⟩
  · rw [HLL.out]
    have := Go.heap_alloc_new (w.alloc (.cells C 2)) (.cells #[.int .i64 r, .int .i64 m, .int .i64 0, .slice (some ⟨w.heap.size, 0, none⟩) n n] 255)
    simpa using this
  · rw [Go.heap_alloc_old _ _ (by simp), HC.out]
    exact Go.heap_alloc_new _ _
/-- The police's block while it is made. -/
def polA (cv : Array Value) (vs : List Value) : Array Value := cv ++ vs.toArray
def fp (pb : Nat) : Nat → Nat := fun k => if k = pb then 1 else 0
theorem fp_ne {pb k : Nat} (h : k ≠ pb) : fp pb k ∉ [1] := by
  unfold fp
  rw [if_neg h]
  decide
theorem polA_at {cv : Array Value} {vs : List Value} (hs : cv.size = 20) (i : Nat) : (polA cv vs)[20 + i]? = vs[i]? := by
  rw [polA, Array.getElem?_append_right (by omega), hs, Nat.add_sub_cancel_left, List.getElem?_toArray]
theorem par_cell {w : World} {pb : Nat} {cv : Array Value} {vs : List Value} (h : w.heap[pb]? = some (.cells (polA cv vs) 142 (0, 0))) (hs : cv.size = 20) (j i : Nat) (hj : j = 20 + i) (v : Value) (hv : vs[i]? = some v) : w.cell? ⟨pb, j, none⟩ = some v := by
  subst hj
  exact cells_of_row h _ _ (by rw [polA_at hs]; exact hv)
theorem par_set {w : World} {pb : Nat} {cv : Array Value} {vs : List Value} (h : w.heap[pb]? = some (.cells (polA cv vs) 142 (0, 0))) (hs : cv.size = 20) (j i : Nat) (hj : j = 20 + i) (v : Value) : (w.setCell ⟨pb, j, none⟩ v).heap[pb]? = some (.cells (polA cv (vs.set i v)) 142 (0, 0)) ∧ Tur (fp pb) [1] w (w.setCell ⟨pb, j, none⟩ v) := by
  subst hj
  refine ⟨?_, Tur.of_two (Two.setCell (g := pb) (h := pb) (x := ⟨pb, 20 + i, none⟩) (Two.refl _ _ w) (.inl rfl) v) (by simp [fp]) (by simp [fp])⟩
  rw [heap_setCell_same _ _ _ _ _ _ h, polA, Array.setIfInBounds_append_right (by omega), hs]
  simp [polA]
theorem cfg_cells {cv : Array Value} {c : Nat → Int} (h : Cfg cv c) : cv = #[.int .i64 (c 0), .int .i64 (c 1), .int .i64 (c 2), .int .i64 (c 3), .int .i64 (c 4), .int .i64 (c 5), .int .i64 (c 6), .int .i64 (c 7), .int .i64 (c 8), .int .i64 (c 9), .int .i64 (c 10), .int .i64 (c 11), .int .i64 (c 12), .int .i64 (c 13), .int .i64 (c 14), .int .i64 (c 15), .int .i64 (c 16), .int .i64 (c 17), .int .i64 (c 18), .int .i64 (c 19)] := by
  apply Array.ext_getElem?
  intro i
  by_cases hi : i < 20
  · rw [h.at_ i hi]
    rcases (show i = 0 ∨ i = 1 ∨ i = 2 ∨ i = 3 ∨ i = 4 ∨ i = 5 ∨ i = 6 ∨ i = 7 ∨ i = 8 ∨ i = 9 ∨ i = 10 ∨ i = 11 ∨ i = 12 ∨ i = 13 ∨ i = 14 ∨ i = 15 ∨ i = 16 ∨ i = 17 ∨ i = 18 ∨ i = 19 by omega) with rfl | rfl | rfl | rfl | rfl | rfl | rfl | rfl | rfl | rfl | rfl | rfl | rfl | rfl | rfl | rfl | rfl | rfl | rfl | rfl <;> rfl
  · rw [Array.getElem?_eq_none (by have := h.size; omega), Array.getElem?_eq_none (by simp; omega)]
def nils : List Value := [.pointer none, .pointer none, .pointer none, .pointer none, .pointer none, .pointer none, .pointer none, .pointer none, .int .i64 0]
theorem build_pol {cv : Array Value} {c : Nat → Int} (h : Cfg cv c) (w : World) : (Instr.build 142 #[(0, .agg cv)]).run Tryz.prog w = .ok (.agg (polA cv nils)) w := by
  rw [cfg_cells h]
  exact run_build w 142 _ _ (by kernel_rfl)
section
variable {P : Program} {ops : Array Oper} {a : Act} {w : World} {K : Act → World → Prop} {Q : Exit → Act → World → Prop} {E : Prop} {ty : TypeId} {pos : String} {after : Array Edge}
theorem step_box (d s : Nat) (t : TypeId) (x : Array Value) (hx : a.tmps.getD s undef = .agg x)
    (h : ∀ W, Hid (Below w.heap.size w W) → Hid (W.heap[w.heap.size]? = some (.cells x t (0, 0))) → Hid (W.heap.size = w.heap.size + 1) → K (a.put (some d) (.pointer (some ⟨w.heap.size, 0, none⟩))) W) :
    if Region.wanted ⟨some d, .box t (.tmp s), ty, pos, after, none⟩ (yielded ops a.tmps) = true then Oper.wp P ⟨some d, .box t (.tmp s), ty, pos, after, none⟩ a w K Q else E := by
  rw [if_pos (by simp [Region.wanted])]
  unfold Oper.wp execOp
  simp only [hx, Instr.box, newVar, Value.cells, Sem.run_bind, Sem.run_pure, Result.andThen_ok, go_sem]
  exact h _ (Lib.hid ((Below.refl _ _).alloc (Nat.le_refl _) _)) (Lib.hid (Go.heap_alloc_new _ _)) (Lib.hid (by simp))
end
end Go.Proofs.YtpanmfdbdgecaaaGreat.C
