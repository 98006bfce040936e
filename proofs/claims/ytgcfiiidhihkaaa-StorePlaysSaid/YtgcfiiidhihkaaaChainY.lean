/- The walks of chain.Chains' writes: Push, Cut (printed by chain.py). -/
import Derived.Test.YtgcfiiidhihkaaaChainX
namespace Go.Proofs.Ytgcfiiidhihkaaa.C.CH
open Go.RowKit
set_option linter.unusedVariables false
set_option maxRecDepth 100000 in
set_option maxHeartbeats 2000000 in
theorem push_first (pb b1 b2 l p : Nat) (f la nx : Int) (ln : List Ln) (lk : List Lk) (w : World) (h : CAt w pb b1 b2 ln lk) (hx : ln[l]? = some ⟨f, la, 0⟩) (hy : lk[p]? = some ⟨-1, nx⟩) (hll : ln.length ≤ 65536) (hll2 : lk.length ≤ 65536) :
    Calls Try.prog 28 #[.pointer (some ⟨pb, 0, none⟩), .int .i64 (l : Nat), .int .i64 (p : Nat)] w fun e w' => e = .returned (.bool true) ∧ CAt w' pb b1 b2 (ln.set l ⟨p, p, 1⟩) (lk.set p ⟨l, -1⟩) ∧ Two b1 b2 w w' := by
  have hlt := lt_of_some hx
  have hltp := lt_of_some hy
  have C := Lib.hid (has_any pb b1 b2 (l : Nat) ln lk w h)
  rw [decide_eq_true (show (0 : Int) ≤ (l : Nat) ∧ ((l : Nat) : Int) < (ln.length : Nat) by omega)] at C
  have d1 : decide (lk.length ≤ p) = false := by simp; omega
  have p1 := Two.refl b1 b2 w
  have h0 := h
  have hl0 := hx
  have hp0 := hy
  have c0_0 := h.c0
  have c1_0 := h.c1
  have e_0 : w.cell? ⟨b2, p * 2, none⟩ = some (.int .i64 (-1)) := (h.lk_ hy).1
  have d_0 : w.cell? ⟨b1, l * 3 + 2, none⟩ = some (.int .i64 0) := (h.ln_ hx).2.2
  have ka_0 : w.cell? ⟨b1, l * 3, none⟩ = some (.int .i64 f) := (h0.ln_ hl0).1
  have fa_0 := h0.f1 (l * 3)
  have h1 : CAt (w.setCell ⟨b1, l * 3, none⟩ (.int .i64 (p : Nat))) pb b1 b2 (ln.set l ⟨(p : Nat), la, 0⟩) lk := by
    have := h0.setFirst hl0 (p : Nat)
    exact this
  have hl1 : (ln.set l ⟨(p : Nat), la, 0⟩)[l]? = some ⟨(p : Nat), la, 0⟩ := List.getElem?_set_self hlt
  have hp1 := hp0
  have kb_1 : (w.setCell ⟨b1, l * 3, none⟩ (.int .i64 (p : Nat))).cell? ⟨b1, l * 3 + 1, none⟩ = some (.int .i64 la) := (h1.ln_ hl1).2.1
  have fb_1 := h1.f1 (l * 3 + 1)
  have h2 : CAt ((w.setCell ⟨b1, l * 3, none⟩ (.int .i64 (p : Nat))).setCell ⟨b1, l * 3 + 1, none⟩ (.int .i64 (p : Nat))) pb b1 b2 (ln.set l ⟨(p : Nat), (p : Nat), 0⟩) lk := by
    have := h1.setLast hl1 (p : Nat)
    rw [List.set_set] at this
    exact this
  have hl2 : (ln.set l ⟨(p : Nat), (p : Nat), 0⟩)[l]? = some ⟨(p : Nat), (p : Nat), 0⟩ := List.getElem?_set_self hlt
  have hp2 := hp1
  have kd_2 : ((w.setCell ⟨b1, l * 3, none⟩ (.int .i64 (p : Nat))).setCell ⟨b1, l * 3 + 1, none⟩ (.int .i64 (p : Nat))).cell? ⟨b1, l * 3 + 2, none⟩ = some (.int .i64 0) := (h2.ln_ hl2).2.2
  have fd_2 := h2.f1 (l * 3 + 2)
  have h3 : CAt (((w.setCell ⟨b1, l * 3, none⟩ (.int .i64 (p : Nat))).setCell ⟨b1, l * 3 + 1, none⟩ (.int .i64 (p : Nat))).setCell ⟨b1, l * 3 + 2, none⟩ (.int .i64 1)) pb b1 b2 (ln.set l ⟨(p : Nat), (p : Nat), 1⟩) lk := by
    have := h2.setN hl2 1
    rw [List.set_set] at this
    exact this
  have hl3 : (ln.set l ⟨(p : Nat), (p : Nat), 1⟩)[l]? = some ⟨(p : Nat), (p : Nat), 1⟩ := List.getElem?_set_self hlt
  have hp3 := hp2
  have ke_3 : (((w.setCell ⟨b1, l * 3, none⟩ (.int .i64 (p : Nat))).setCell ⟨b1, l * 3 + 1, none⟩ (.int .i64 (p : Nat))).setCell ⟨b1, l * 3 + 2, none⟩ (.int .i64 1)).cell? ⟨b2, p * 2, none⟩ = some (.int .i64 (-1)) := (h3.lk_ hp3).1
  have fe_3 := h3.f2 (p * 2)
  have c1_3 := h3.c1
  have h4 : CAt ((((w.setCell ⟨b1, l * 3, none⟩ (.int .i64 (p : Nat))).setCell ⟨b1, l * 3 + 1, none⟩ (.int .i64 (p : Nat))).setCell ⟨b1, l * 3 + 2, none⟩ (.int .i64 1)).setCell ⟨b2, p * 2, none⟩ (.int .i64 (l : Nat))) pb b1 b2 (ln.set l ⟨(p : Nat), (p : Nat), 1⟩) (lk.set p ⟨(l : Nat), nx⟩) := by
    have := h3.setLine hp3 (l : Nat)
    exact this
  have hl4 := hl3
  have hp4 : (lk.set p ⟨(l : Nat), nx⟩)[p]? = some ⟨(l : Nat), nx⟩ := List.getElem?_set_self (by (try simp only [List.length_set]); exact hltp)
  have kg_4 : ((((w.setCell ⟨b1, l * 3, none⟩ (.int .i64 (p : Nat))).setCell ⟨b1, l * 3 + 1, none⟩ (.int .i64 (p : Nat))).setCell ⟨b1, l * 3 + 2, none⟩ (.int .i64 1)).setCell ⟨b2, p * 2, none⟩ (.int .i64 (l : Nat))).cell? ⟨b2, p * 2 + 1, none⟩ = some (.int .i64 nx) := (h4.lk_ hp4).2
  have fg_4 := h4.f2 (p * 2 + 1)
  have h5 : CAt (((((w.setCell ⟨b1, l * 3, none⟩ (.int .i64 (p : Nat))).setCell ⟨b1, l * 3 + 1, none⟩ (.int .i64 (p : Nat))).setCell ⟨b1, l * 3 + 2, none⟩ (.int .i64 1)).setCell ⟨b2, p * 2, none⟩ (.int .i64 (l : Nat))).setCell ⟨b2, p * 2 + 1, none⟩ (.int .i64 (-1))) pb b1 b2 (ln.set l ⟨(p : Nat), (p : Nat), 1⟩) (lk.set p ⟨(l : Nat), (-1)⟩) := by
    have := h4.setNext hp4 (-1)
    rw [List.set_set] at this
    exact this
  have hl5 := hl4
  have hp5 : (lk.set p ⟨(l : Nat), (-1)⟩)[p]? = some ⟨(l : Nat), (-1)⟩ := List.getElem?_set_self (by (try simp only [List.length_set]); exact hltp)
  have HF := Lib.hid h5
  have HT : Hid (Two b1 b2 w (((((w.setCell ⟨b1, l * 3, none⟩ (.int .i64 (p : Nat))).setCell ⟨b1, l * 3 + 1, none⟩ (.int .i64 (p : Nat))).setCell ⟨b1, l * 3 + 2, none⟩ (.int .i64 1)).setCell ⟨b2, p * 2, none⟩ (.int .i64 (l : Nat))).setCell ⟨b2, p * 2 + 1, none⟩ (.int .i64 (-1)))) := (Two.setCell (x := ⟨b2, p * 2 + 1, none⟩) (Two.setCell (x := ⟨b2, p * 2, none⟩) (Two.setCell (x := ⟨b1, l * 3 + 2, none⟩) (Two.setCell (x := ⟨b1, l * 3 + 1, none⟩) (Two.setCell (x := ⟨b1, l * 3, none⟩) p1 (.inl rfl) _) (.inl rfl) _) (.inl rfl) _) (.inr rfl) _) (.inr rfl) _)
  clear h hx hy p1 h0 hl0 hp0 h1 hl1 hp1 h2 hl2 hp2 h3 hl3 hp3 h4 hl4 hp4 h5 hl5 hp5
  go_enter Try.func28, Try.ntmps28
  go_wp2_with fail
  refine C.out.mono ?_
  rintro e w1 ⟨rfl, rfl⟩
  go_wp2
  go_ret
  exact ⟨rfl, HF.out, HT.out⟩
set_option maxRecDepth 100000 in
set_option maxHeartbeats 2000000 in
theorem push_next (pb b1 b2 l p u : Nat) (f n nx zl zn : Int) (ln : List Ln) (lk : List Lk) (w : World) (h : CAt w pb b1 b2 ln lk) (hx : ln[l]? = some ⟨f, (u : Nat), n⟩) (hy : lk[p]? = some ⟨-1, nx⟩) (hz : lk[u]? = some ⟨zl, zn⟩) (hup : u ≠ p) (hn0 : 0 < n) (hn1 : n ≤ 65536) (hll : ln.length ≤ 65536) (hll2 : lk.length ≤ 65536) :
    Calls Try.prog 28 #[.pointer (some ⟨pb, 0, none⟩), .int .i64 (l : Nat), .int .i64 (p : Nat)] w fun e w' => e = .returned (.bool true) ∧ CAt w' pb b1 b2 (ln.set l ⟨f, p, n + 1⟩) ((lk.set u ⟨zl, (p : Nat)⟩).set p ⟨l, -1⟩) ∧ Two b1 b2 w w' := by
  have hlt := lt_of_some hx
  have hltp := lt_of_some hy
  have hltu := lt_of_some hz
  have C := Lib.hid (has_any pb b1 b2 (l : Nat) ln lk w h)
  rw [decide_eq_true (show (0 : Int) ≤ (l : Nat) ∧ ((l : Nat) : Int) < (ln.length : Nat) by omega)] at C
  have d1 : decide (lk.length ≤ p) = false := by simp; omega
  have dn : (n == 0) = false := beq_false_of_ne (by omega)
  have hwn : IntKind.i64.wrap (n + 1) = n + 1 := IntWalk.i64_in _ (by omega)
  have c0 := h.c0
  have c1 := h.c1
  obtain ⟨a0, b0, d0⟩ := h.ln_ hx
  obtain ⟨e0, g0⟩ := h.lk_ hy
  have H := Lib.hid h
  have Hx := Lib.hid hx
  have Hy := Lib.hid hy
  have Hz := Lib.hid hz
  clear h hx hy hz
  go_enter Try.func28, Try.ntmps28
  go_wp2_with fail
  refine C.out.mono ?_
  rintro e w1 ⟨rfl, rfl⟩
  clear C
  go_wp2_with fail
  refine wp_region_still_tail 11 (by kernel_rfl) (by kernel_rfl) ?_
  change wpStill _ _ w1.drew (fun a' => wpList _ _ _ _ a' w1.drew) _ _
  simp only [List.take_succ_cons, List.take_zero, List.drop_succ_cons, List.drop_zero]
  have h0 : CAt w1.drew pb b1 b2 ln lk := ⟨H.out.ptr, H.out.r1, H.out.r2⟩
  have p1 : Two b1 b2 w1 w1.drew := (Two.refl b1 b2 w1).drewN 1
  clear H c0 c1 a0 b0 d0 e0 g0
  generalize w1.drew = w2 at h0 p1 ⊢
  have H0 := Lib.hid h0
  have c0 := h0.c0
  have c1 := h0.c1
  obtain ⟨a0, b0, d0⟩ := h0.ln_ Hx.out
  clear h0
  iterate 11 still_step
  refine wpStill_nil ?_
  have h0 := H0.out
  have hl0 := Hx.out
  have hp0 := Hy.out
  have hu0 := Hz.out
  clear H0 Hx Hy Hz c0 c1 a0 b0 d0
  have kg_0 : w2.cell? ⟨b2, u * 2 + 1, none⟩ = some (.int .i64 zn) := (h0.lk_ hu0).2
  have fg_0 := h0.f2 (u * 2 + 1)
  have c1_0 := h0.c1
  have h1 : CAt (w2.setCell ⟨b2, u * 2 + 1, none⟩ (.int .i64 (p : Nat))) pb b1 b2 ln (lk.set u ⟨zl, (p : Nat)⟩) := by
    have := h0.setNext hu0 (p : Nat)
    exact this
  have hl1 := hl0
  have hp1 : (lk.set u ⟨zl, (p : Nat)⟩)[p]? = some ⟨(-1), nx⟩ := by
    rw [List.getElem?_set_ne (by omega)]
    have := hp0
    exact this
  have hu1 : (lk.set u ⟨zl, (p : Nat)⟩)[u]? = some ⟨zl, (p : Nat)⟩ := List.getElem?_set_self (by (try simp only [List.length_set]); exact hltu)
  have kb_1 : (w2.setCell ⟨b2, u * 2 + 1, none⟩ (.int .i64 (p : Nat))).cell? ⟨b1, l * 3 + 1, none⟩ = some (.int .i64 (u : Nat)) := (h1.ln_ hl1).2.1
  have fb_1 := h1.f1 (l * 3 + 1)
  have h2 : CAt ((w2.setCell ⟨b2, u * 2 + 1, none⟩ (.int .i64 (p : Nat))).setCell ⟨b1, l * 3 + 1, none⟩ (.int .i64 (p : Nat))) pb b1 b2 (ln.set l ⟨f, (p : Nat), n⟩) (lk.set u ⟨zl, (p : Nat)⟩) := by
    have := h1.setLast hl1 (p : Nat)
    exact this
  have hl2 : (ln.set l ⟨f, (p : Nat), n⟩)[l]? = some ⟨f, (p : Nat), n⟩ := List.getElem?_set_self hlt
  have hp2 := hp1
  have hu2 := hu1
  have kd_2 : ((w2.setCell ⟨b2, u * 2 + 1, none⟩ (.int .i64 (p : Nat))).setCell ⟨b1, l * 3 + 1, none⟩ (.int .i64 (p : Nat))).cell? ⟨b1, l * 3 + 2, none⟩ = some (.int .i64 n) := (h2.ln_ hl2).2.2
  have fd_2 := h2.f1 (l * 3 + 2)
  have h3 : CAt (((w2.setCell ⟨b2, u * 2 + 1, none⟩ (.int .i64 (p : Nat))).setCell ⟨b1, l * 3 + 1, none⟩ (.int .i64 (p : Nat))).setCell ⟨b1, l * 3 + 2, none⟩ (.int .i64 (n + 1))) pb b1 b2 (ln.set l ⟨f, (p : Nat), (n + 1)⟩) (lk.set u ⟨zl, (p : Nat)⟩) := by
    have := h2.setN hl2 (n + 1)
    rw [List.set_set] at this
    exact this
  have hl3 : (ln.set l ⟨f, (p : Nat), (n + 1)⟩)[l]? = some ⟨f, (p : Nat), (n + 1)⟩ := List.getElem?_set_self hlt
  have hp3 := hp2
  have hu3 := hu2
  have ke_3 : (((w2.setCell ⟨b2, u * 2 + 1, none⟩ (.int .i64 (p : Nat))).setCell ⟨b1, l * 3 + 1, none⟩ (.int .i64 (p : Nat))).setCell ⟨b1, l * 3 + 2, none⟩ (.int .i64 (n + 1))).cell? ⟨b2, p * 2, none⟩ = some (.int .i64 (-1)) := (h3.lk_ hp3).1
  have fe_3 := h3.f2 (p * 2)
  have c1_3 := h3.c1
  simp only [List.length_set] at c1_3
  have h4 : CAt ((((w2.setCell ⟨b2, u * 2 + 1, none⟩ (.int .i64 (p : Nat))).setCell ⟨b1, l * 3 + 1, none⟩ (.int .i64 (p : Nat))).setCell ⟨b1, l * 3 + 2, none⟩ (.int .i64 (n + 1))).setCell ⟨b2, p * 2, none⟩ (.int .i64 (l : Nat))) pb b1 b2 (ln.set l ⟨f, (p : Nat), (n + 1)⟩) ((lk.set u ⟨zl, (p : Nat)⟩).set p ⟨(l : Nat), nx⟩) := by
    have := h3.setLine hp3 (l : Nat)
    exact this
  have hl4 := hl3
  have hp4 : ((lk.set u ⟨zl, (p : Nat)⟩).set p ⟨(l : Nat), nx⟩)[p]? = some ⟨(l : Nat), nx⟩ := List.getElem?_set_self (by (try simp only [List.length_set]); exact hltp)
  have hu4 : ((lk.set u ⟨zl, (p : Nat)⟩).set p ⟨(l : Nat), nx⟩)[u]? = some ⟨zl, (p : Nat)⟩ := by
    rw [List.getElem?_set_ne (by omega)]
    have := hu3
    exact this
  have kg_4 : ((((w2.setCell ⟨b2, u * 2 + 1, none⟩ (.int .i64 (p : Nat))).setCell ⟨b1, l * 3 + 1, none⟩ (.int .i64 (p : Nat))).setCell ⟨b1, l * 3 + 2, none⟩ (.int .i64 (n + 1))).setCell ⟨b2, p * 2, none⟩ (.int .i64 (l : Nat))).cell? ⟨b2, p * 2 + 1, none⟩ = some (.int .i64 nx) := (h4.lk_ hp4).2
  have fg_4 := h4.f2 (p * 2 + 1)
  have h5 : CAt (((((w2.setCell ⟨b2, u * 2 + 1, none⟩ (.int .i64 (p : Nat))).setCell ⟨b1, l * 3 + 1, none⟩ (.int .i64 (p : Nat))).setCell ⟨b1, l * 3 + 2, none⟩ (.int .i64 (n + 1))).setCell ⟨b2, p * 2, none⟩ (.int .i64 (l : Nat))).setCell ⟨b2, p * 2 + 1, none⟩ (.int .i64 (-1))) pb b1 b2 (ln.set l ⟨f, (p : Nat), (n + 1)⟩) ((lk.set u ⟨zl, (p : Nat)⟩).set p ⟨(l : Nat), (-1)⟩) := by
    have := h4.setNext hp4 (-1)
    rw [List.set_set] at this
    exact this
  have hl5 := hl4
  have hp5 : ((lk.set u ⟨zl, (p : Nat)⟩).set p ⟨(l : Nat), (-1)⟩)[p]? = some ⟨(l : Nat), (-1)⟩ := List.getElem?_set_self (by (try simp only [List.length_set]); exact hltp)
  have hu5 : ((lk.set u ⟨zl, (p : Nat)⟩).set p ⟨(l : Nat), (-1)⟩)[u]? = some ⟨zl, (p : Nat)⟩ := by
    rw [List.getElem?_set_ne (by omega)]
    have := hu4
    rw [List.getElem?_set_ne (by omega)] at this
    exact this
  have HF := Lib.hid h5
  have HT : Hid (Two b1 b2 w1 (((((w2.setCell ⟨b2, u * 2 + 1, none⟩ (.int .i64 (p : Nat))).setCell ⟨b1, l * 3 + 1, none⟩ (.int .i64 (p : Nat))).setCell ⟨b1, l * 3 + 2, none⟩ (.int .i64 (n + 1))).setCell ⟨b2, p * 2, none⟩ (.int .i64 (l : Nat))).setCell ⟨b2, p * 2 + 1, none⟩ (.int .i64 (-1)))) := (Two.setCell (x := ⟨b2, p * 2 + 1, none⟩) (Two.setCell (x := ⟨b2, p * 2, none⟩) (Two.setCell (x := ⟨b1, l * 3 + 2, none⟩) (Two.setCell (x := ⟨b1, l * 3 + 1, none⟩) (Two.setCell (x := ⟨b2, u * 2 + 1, none⟩) p1 (.inr rfl) _) (.inl rfl) _) (.inl rfl) _) (.inr rfl) _) (.inr rfl) _)
  clear p1 h0 hl0 hp0 hu0 h1 hl1 hp1 hu1 h2 hl2 hp2 hu2 h3 hl3 hp3 hu3 h4 hl4 hp4 hu4 h5 hl5 hp5 hu5
  go_wp2
  go_ret
  exact ⟨rfl, HF.out, HT.out⟩
set_option maxRecDepth 100000 in
set_option maxHeartbeats 2000000 in
theorem cut_he (pb b1 b2 l k p : Nat) (f la n yl : Int) (ln : List Ln) (lk : List Lk) (w : World) (h : CAt w pb b1 b2 ln lk) (C : Hid (Calls Try.prog 59 #[.pointer (some ⟨pb, 0, none⟩), .int .i64 (l : Nat), .int .i64 (k : Nat)] w fun e w' => e = .returned (.tuple #[.int .i64 (p : Nat), .int .i64 (-1), .bool true]) ∧ ∃ m, w' = w.drewN m))
    (hx : ln[l]? = some ⟨f, la, n⟩) (hy : lk[p]? = some ⟨yl, (-1)⟩) (hn0 : 0 < n) (hn1 : n ≤ 65536) (hll : ln.length ≤ 65536) (hll2 : lk.length ≤ 65536) :
    Calls Try.prog 33 #[.pointer (some ⟨pb, 0, none⟩), .int .i64 (l : Nat), .int .i64 (k : Nat)] w fun e w' => e = .returned (.tuple #[.int .i64 (p : Nat), .bool true]) ∧ CAt w' pb b1 b2 (ln.set l ⟨(-1), (-1), n - 1⟩) (lk.set p ⟨-1, -1⟩) ∧ Two b1 b2 w w' := by
  have hlt := lt_of_some hx
  have hltp := lt_of_some hy
  have hwn : IntKind.i64.wrap (n - 1) = n - 1 := IntWalk.i64_in _ (by omega)
  have H := Lib.hid h
  have Hx := Lib.hid hx
  have Hy := Lib.hid hy
  clear h hx hy
  go_enter Try.func33, Try.ntmps33
  go_wp2_with fail
  refine C.out.mono ?_
  rintro e w1 ⟨rfl, m, rfl⟩
  clear C
  have c0 := H.out.c0
  have c1 := H.out.c1
  obtain ⟨a0, b0, d0⟩ := H.out.ln_ Hx.out
  obtain ⟨e0, g0⟩ := H.out.lk_ Hy.out
  go_wp2_with fail
  go_quiet (fail)
  try simp only [World.drewN_drewN]
  have h0 := H.out.drewN (m + nq)
  have p1 := (Two.refl b1 b2 w).drewN (m + nq)
  clear H c0 c1 a0 b0 d0 e0 g0
  generalize w.drewN (m + nq) = w2 at h0 p1 ⊢
  have hl0 := Hx.out
  have hp0 := Hy.out
  clear Hx Hy
  have ka_0 : w2.cell? ⟨b1, l * 3, none⟩ = some (.int .i64 f) := (h0.ln_ hl0).1
  have fa_0 := h0.f1 (l * 3)
  have h1 : CAt (w2.setCell ⟨b1, l * 3, none⟩ (.int .i64 (-1))) pb b1 b2 (ln.set l ⟨(-1), la, n⟩) lk := by
    have := h0.setFirst hl0 (-1)
    exact this
  have hl1 : (ln.set l ⟨(-1), la, n⟩)[l]? = some ⟨(-1), la, n⟩ := List.getElem?_set_self hlt
  have hp1 := hp0
  have kb_1 : (w2.setCell ⟨b1, l * 3, none⟩ (.int .i64 (-1))).cell? ⟨b1, l * 3 + 1, none⟩ = some (.int .i64 la) := (h1.ln_ hl1).2.1
  have fb_1 := h1.f1 (l * 3 + 1)
  have h2 : CAt ((w2.setCell ⟨b1, l * 3, none⟩ (.int .i64 (-1))).setCell ⟨b1, l * 3 + 1, none⟩ (.int .i64 (-1))) pb b1 b2 (ln.set l ⟨(-1), (-1), n⟩) lk := by
    have := h1.setLast hl1 (-1)
    rw [List.set_set] at this
    exact this
  have hl2 : (ln.set l ⟨(-1), (-1), n⟩)[l]? = some ⟨(-1), (-1), n⟩ := List.getElem?_set_self hlt
  have hp2 := hp1
  have kd_2 : ((w2.setCell ⟨b1, l * 3, none⟩ (.int .i64 (-1))).setCell ⟨b1, l * 3 + 1, none⟩ (.int .i64 (-1))).cell? ⟨b1, l * 3 + 2, none⟩ = some (.int .i64 n) := (h2.ln_ hl2).2.2
  have fd_2 := h2.f1 (l * 3 + 2)
  have h3 : CAt (((w2.setCell ⟨b1, l * 3, none⟩ (.int .i64 (-1))).setCell ⟨b1, l * 3 + 1, none⟩ (.int .i64 (-1))).setCell ⟨b1, l * 3 + 2, none⟩ (.int .i64 (n - 1))) pb b1 b2 (ln.set l ⟨(-1), (-1), (n - 1)⟩) lk := by
    have := h2.setN hl2 (n - 1)
    rw [List.set_set] at this
    exact this
  have hl3 : (ln.set l ⟨(-1), (-1), (n - 1)⟩)[l]? = some ⟨(-1), (-1), (n - 1)⟩ := List.getElem?_set_self hlt
  have hp3 := hp2
  have ke_3 : (((w2.setCell ⟨b1, l * 3, none⟩ (.int .i64 (-1))).setCell ⟨b1, l * 3 + 1, none⟩ (.int .i64 (-1))).setCell ⟨b1, l * 3 + 2, none⟩ (.int .i64 (n - 1))).cell? ⟨b2, p * 2, none⟩ = some (.int .i64 yl) := (h3.lk_ hp3).1
  have fe_3 := h3.f2 (p * 2)
  have c1_3 := h3.c1
  have h4 : CAt ((((w2.setCell ⟨b1, l * 3, none⟩ (.int .i64 (-1))).setCell ⟨b1, l * 3 + 1, none⟩ (.int .i64 (-1))).setCell ⟨b1, l * 3 + 2, none⟩ (.int .i64 (n - 1))).setCell ⟨b2, p * 2, none⟩ (.int .i64 (-1))) pb b1 b2 (ln.set l ⟨(-1), (-1), (n - 1)⟩) (lk.set p ⟨(-1), (-1)⟩) := by
    have := h3.setLine hp3 (-1)
    exact this
  have hl4 := hl3
  have hp4 : (lk.set p ⟨(-1), (-1)⟩)[p]? = some ⟨(-1), (-1)⟩ := List.getElem?_set_self (by (try simp only [List.length_set]); exact hltp)
  have kg_4 : ((((w2.setCell ⟨b1, l * 3, none⟩ (.int .i64 (-1))).setCell ⟨b1, l * 3 + 1, none⟩ (.int .i64 (-1))).setCell ⟨b1, l * 3 + 2, none⟩ (.int .i64 (n - 1))).setCell ⟨b2, p * 2, none⟩ (.int .i64 (-1))).cell? ⟨b2, p * 2 + 1, none⟩ = some (.int .i64 (-1)) := (h4.lk_ hp4).2
  have fg_4 := h4.f2 (p * 2 + 1)
  have h5 : CAt (((((w2.setCell ⟨b1, l * 3, none⟩ (.int .i64 (-1))).setCell ⟨b1, l * 3 + 1, none⟩ (.int .i64 (-1))).setCell ⟨b1, l * 3 + 2, none⟩ (.int .i64 (n - 1))).setCell ⟨b2, p * 2, none⟩ (.int .i64 (-1))).setCell ⟨b2, p * 2 + 1, none⟩ (.int .i64 (-1))) pb b1 b2 (ln.set l ⟨(-1), (-1), (n - 1)⟩) (lk.set p ⟨(-1), (-1)⟩) := by
    have := h4.setNext hp4 (-1)
    rw [List.set_set] at this
    exact this
  have hl5 := hl4
  have hp5 : (lk.set p ⟨(-1), (-1)⟩)[p]? = some ⟨(-1), (-1)⟩ := List.getElem?_set_self (by (try simp only [List.length_set]); exact hltp)
  have HF := Lib.hid h5
  have HT : Hid (Two b1 b2 w (((((w2.setCell ⟨b1, l * 3, none⟩ (.int .i64 (-1))).setCell ⟨b1, l * 3 + 1, none⟩ (.int .i64 (-1))).setCell ⟨b1, l * 3 + 2, none⟩ (.int .i64 (n - 1))).setCell ⟨b2, p * 2, none⟩ (.int .i64 (-1))).setCell ⟨b2, p * 2 + 1, none⟩ (.int .i64 (-1)))) := (Two.setCell (x := ⟨b2, p * 2 + 1, none⟩) (Two.setCell (x := ⟨b2, p * 2, none⟩) (Two.setCell (x := ⟨b1, l * 3 + 2, none⟩) (Two.setCell (x := ⟨b1, l * 3 + 1, none⟩) (Two.setCell (x := ⟨b1, l * 3, none⟩) p1 (.inl rfl) _) (.inl rfl) _) (.inl rfl) _) (.inr rfl) _) (.inr rfl) _)
  clear p1 h0 hl0 hp0 h1 hl1 hp1 h2 hl2 hp2 h3 hl3 hp3 h4 hl4 hp4 h5 hl5 hp5
  go_wp2
  go_ret2
  exact ⟨rfl, HF.out, HT.out⟩
set_option maxRecDepth 100000 in
set_option maxHeartbeats 2000000 in
theorem cut_hm (pb b1 b2 l k p v : Nat) (f la n yl : Int) (ln : List Ln) (lk : List Lk) (w : World) (h : CAt w pb b1 b2 ln lk) (C : Hid (Calls Try.prog 59 #[.pointer (some ⟨pb, 0, none⟩), .int .i64 (l : Nat), .int .i64 (k : Nat)] w fun e w' => e = .returned (.tuple #[.int .i64 (p : Nat), .int .i64 (-1), .bool true]) ∧ ∃ m, w' = w.drewN m))
    (hx : ln[l]? = some ⟨f, la, n⟩) (hy : lk[p]? = some ⟨yl, (v : Nat)⟩) (hn0 : 0 < n) (hn1 : n ≤ 65536) (hll : ln.length ≤ 65536) (hll2 : lk.length ≤ 65536) :
    Calls Try.prog 33 #[.pointer (some ⟨pb, 0, none⟩), .int .i64 (l : Nat), .int .i64 (k : Nat)] w fun e w' => e = .returned (.tuple #[.int .i64 (p : Nat), .bool true]) ∧ CAt w' pb b1 b2 (ln.set l ⟨(v : Nat), la, n - 1⟩) (lk.set p ⟨-1, -1⟩) ∧ Two b1 b2 w w' := by
  have hlt := lt_of_some hx
  have hltp := lt_of_some hy
  have hwn : IntKind.i64.wrap (n - 1) = n - 1 := IntWalk.i64_in _ (by omega)
  have H := Lib.hid h
  have Hx := Lib.hid hx
  have Hy := Lib.hid hy
  have dv : ((v : Int) == -1) = false := beq_false_of_ne (by omega)
  clear h hx hy
  go_enter Try.func33, Try.ntmps33
  go_wp2_with fail
  refine C.out.mono ?_
  rintro e w1 ⟨rfl, m, rfl⟩
  clear C
  have c0 := H.out.c0
  have c1 := H.out.c1
  obtain ⟨a0, b0, d0⟩ := H.out.ln_ Hx.out
  obtain ⟨e0, g0⟩ := H.out.lk_ Hy.out
  go_wp2_with fail
  go_quiet (fail)
  try simp only [World.drewN_drewN]
  have h0 := H.out.drewN (m + nq)
  have p1 := (Two.refl b1 b2 w).drewN (m + nq)
  clear H c0 c1 a0 b0 d0 e0 g0
  generalize w.drewN (m + nq) = w2 at h0 p1 ⊢
  have hl0 := Hx.out
  have hp0 := Hy.out
  clear Hx Hy
  have ka_0 : w2.cell? ⟨b1, l * 3, none⟩ = some (.int .i64 f) := (h0.ln_ hl0).1
  have fa_0 := h0.f1 (l * 3)
  have h1 : CAt (w2.setCell ⟨b1, l * 3, none⟩ (.int .i64 (v : Nat))) pb b1 b2 (ln.set l ⟨(v : Nat), la, n⟩) lk := by
    have := h0.setFirst hl0 (v : Nat)
    exact this
  have hl1 : (ln.set l ⟨(v : Nat), la, n⟩)[l]? = some ⟨(v : Nat), la, n⟩ := List.getElem?_set_self hlt
  have hp1 := hp0
  have kd_1 : (w2.setCell ⟨b1, l * 3, none⟩ (.int .i64 (v : Nat))).cell? ⟨b1, l * 3 + 2, none⟩ = some (.int .i64 n) := (h1.ln_ hl1).2.2
  have fd_1 := h1.f1 (l * 3 + 2)
  have h2 : CAt ((w2.setCell ⟨b1, l * 3, none⟩ (.int .i64 (v : Nat))).setCell ⟨b1, l * 3 + 2, none⟩ (.int .i64 (n - 1))) pb b1 b2 (ln.set l ⟨(v : Nat), la, (n - 1)⟩) lk := by
    have := h1.setN hl1 (n - 1)
    rw [List.set_set] at this
    exact this
  have hl2 : (ln.set l ⟨(v : Nat), la, (n - 1)⟩)[l]? = some ⟨(v : Nat), la, (n - 1)⟩ := List.getElem?_set_self hlt
  have hp2 := hp1
  have ke_2 : ((w2.setCell ⟨b1, l * 3, none⟩ (.int .i64 (v : Nat))).setCell ⟨b1, l * 3 + 2, none⟩ (.int .i64 (n - 1))).cell? ⟨b2, p * 2, none⟩ = some (.int .i64 yl) := (h2.lk_ hp2).1
  have fe_2 := h2.f2 (p * 2)
  have c1_2 := h2.c1
  have h3 : CAt (((w2.setCell ⟨b1, l * 3, none⟩ (.int .i64 (v : Nat))).setCell ⟨b1, l * 3 + 2, none⟩ (.int .i64 (n - 1))).setCell ⟨b2, p * 2, none⟩ (.int .i64 (-1))) pb b1 b2 (ln.set l ⟨(v : Nat), la, (n - 1)⟩) (lk.set p ⟨(-1), (v : Nat)⟩) := by
    have := h2.setLine hp2 (-1)
    exact this
  have hl3 := hl2
  have hp3 : (lk.set p ⟨(-1), (v : Nat)⟩)[p]? = some ⟨(-1), (v : Nat)⟩ := List.getElem?_set_self (by (try simp only [List.length_set]); exact hltp)
  have kg_3 : (((w2.setCell ⟨b1, l * 3, none⟩ (.int .i64 (v : Nat))).setCell ⟨b1, l * 3 + 2, none⟩ (.int .i64 (n - 1))).setCell ⟨b2, p * 2, none⟩ (.int .i64 (-1))).cell? ⟨b2, p * 2 + 1, none⟩ = some (.int .i64 (v : Nat)) := (h3.lk_ hp3).2
  have fg_3 := h3.f2 (p * 2 + 1)
  have h4 : CAt ((((w2.setCell ⟨b1, l * 3, none⟩ (.int .i64 (v : Nat))).setCell ⟨b1, l * 3 + 2, none⟩ (.int .i64 (n - 1))).setCell ⟨b2, p * 2, none⟩ (.int .i64 (-1))).setCell ⟨b2, p * 2 + 1, none⟩ (.int .i64 (-1))) pb b1 b2 (ln.set l ⟨(v : Nat), la, (n - 1)⟩) (lk.set p ⟨(-1), (-1)⟩) := by
    have := h3.setNext hp3 (-1)
    rw [List.set_set] at this
    exact this
  have hl4 := hl3
  have hp4 : (lk.set p ⟨(-1), (-1)⟩)[p]? = some ⟨(-1), (-1)⟩ := List.getElem?_set_self (by (try simp only [List.length_set]); exact hltp)
  have HF := Lib.hid h4
  have HT : Hid (Two b1 b2 w ((((w2.setCell ⟨b1, l * 3, none⟩ (.int .i64 (v : Nat))).setCell ⟨b1, l * 3 + 2, none⟩ (.int .i64 (n - 1))).setCell ⟨b2, p * 2, none⟩ (.int .i64 (-1))).setCell ⟨b2, p * 2 + 1, none⟩ (.int .i64 (-1)))) := (Two.setCell (x := ⟨b2, p * 2 + 1, none⟩) (Two.setCell (x := ⟨b2, p * 2, none⟩) (Two.setCell (x := ⟨b1, l * 3 + 2, none⟩) (Two.setCell (x := ⟨b1, l * 3, none⟩) p1 (.inl rfl) _) (.inl rfl) _) (.inr rfl) _) (.inr rfl) _)
  clear p1 h0 hl0 hp0 h1 hl1 hp1 h2 hl2 hp2 h3 hl3 hp3 h4 hl4 hp4
  go_wp2
  go_ret2
  exact ⟨rfl, HF.out, HT.out⟩
set_option maxRecDepth 100000 in
set_option maxHeartbeats 2000000 in
theorem cut_me (pb b1 b2 l k p u : Nat) (f la n yl zl zn : Int) (ln : List Ln) (lk : List Lk) (w : World) (h : CAt w pb b1 b2 ln lk) (C : Hid (Calls Try.prog 59 #[.pointer (some ⟨pb, 0, none⟩), .int .i64 (l : Nat), .int .i64 (k : Nat)] w fun e w' => e = .returned (.tuple #[.int .i64 (p : Nat), .int .i64 (u : Nat), .bool true]) ∧ ∃ m, w' = w.drewN m))
    (hx : ln[l]? = some ⟨f, la, n⟩) (hy : lk[p]? = some ⟨yl, (-1)⟩) (hz : lk[u]? = some ⟨zl, zn⟩) (hup : u ≠ p) (hn0 : 0 < n) (hn1 : n ≤ 65536) (hll : ln.length ≤ 65536) (hll2 : lk.length ≤ 65536) :
    Calls Try.prog 33 #[.pointer (some ⟨pb, 0, none⟩), .int .i64 (l : Nat), .int .i64 (k : Nat)] w fun e w' => e = .returned (.tuple #[.int .i64 (p : Nat), .bool true]) ∧ CAt w' pb b1 b2 (ln.set l ⟨f, (u : Nat), n - 1⟩) ((lk.set u ⟨zl, (-1)⟩).set p ⟨-1, -1⟩) ∧ Two b1 b2 w w' := by
  have hlt := lt_of_some hx
  have hltp := lt_of_some hy
  have hwn : IntKind.i64.wrap (n - 1) = n - 1 := IntWalk.i64_in _ (by omega)
  have H := Lib.hid h
  have Hx := Lib.hid hx
  have Hy := Lib.hid hy
  have hltu := lt_of_some hz
  have Hz := Lib.hid hz
  have du : ((u : Int) == -1) = false := beq_false_of_ne (by omega)
  clear h hx hy hz
  go_enter Try.func33, Try.ntmps33
  go_wp2_with fail
  refine C.out.mono ?_
  rintro e w1 ⟨rfl, m, rfl⟩
  clear C
  have c0 := H.out.c0
  have c1 := H.out.c1
  obtain ⟨a0, b0, d0⟩ := H.out.ln_ Hx.out
  obtain ⟨e0, g0⟩ := H.out.lk_ Hy.out
  go_wp2_with fail
  go_quiet (fail)
  try simp only [World.drewN_drewN]
  have h0 := H.out.drewN (m + nq)
  have p1 := (Two.refl b1 b2 w).drewN (m + nq)
  clear H c0 c1 a0 b0 d0 e0 g0
  generalize w.drewN (m + nq) = w2 at h0 p1 ⊢
  have hl0 := Hx.out
  have hp0 := Hy.out
  have hu0 := Hz.out
  clear Hx Hy Hz
  have kg_0 : w2.cell? ⟨b2, u * 2 + 1, none⟩ = some (.int .i64 zn) := (h0.lk_ hu0).2
  have fg_0 := h0.f2 (u * 2 + 1)
  have c1_0 := h0.c1
  have h1 : CAt (w2.setCell ⟨b2, u * 2 + 1, none⟩ (.int .i64 (-1))) pb b1 b2 ln (lk.set u ⟨zl, (-1)⟩) := by
    have := h0.setNext hu0 (-1)
    exact this
  have hl1 := hl0
  have hp1 : (lk.set u ⟨zl, (-1)⟩)[p]? = some ⟨yl, (-1)⟩ := by
    rw [List.getElem?_set_ne (by omega)]
    have := hp0
    exact this
  have hu1 : (lk.set u ⟨zl, (-1)⟩)[u]? = some ⟨zl, (-1)⟩ := List.getElem?_set_self (by (try simp only [List.length_set]); exact hltu)
  have kb_1 : (w2.setCell ⟨b2, u * 2 + 1, none⟩ (.int .i64 (-1))).cell? ⟨b1, l * 3 + 1, none⟩ = some (.int .i64 la) := (h1.ln_ hl1).2.1
  have fb_1 := h1.f1 (l * 3 + 1)
  have h2 : CAt ((w2.setCell ⟨b2, u * 2 + 1, none⟩ (.int .i64 (-1))).setCell ⟨b1, l * 3 + 1, none⟩ (.int .i64 (u : Nat))) pb b1 b2 (ln.set l ⟨f, (u : Nat), n⟩) (lk.set u ⟨zl, (-1)⟩) := by
    have := h1.setLast hl1 (u : Nat)
    exact this
  have hl2 : (ln.set l ⟨f, (u : Nat), n⟩)[l]? = some ⟨f, (u : Nat), n⟩ := List.getElem?_set_self hlt
  have hp2 := hp1
  have hu2 := hu1
  have kd_2 : ((w2.setCell ⟨b2, u * 2 + 1, none⟩ (.int .i64 (-1))).setCell ⟨b1, l * 3 + 1, none⟩ (.int .i64 (u : Nat))).cell? ⟨b1, l * 3 + 2, none⟩ = some (.int .i64 n) := (h2.ln_ hl2).2.2
  have fd_2 := h2.f1 (l * 3 + 2)
  have h3 : CAt (((w2.setCell ⟨b2, u * 2 + 1, none⟩ (.int .i64 (-1))).setCell ⟨b1, l * 3 + 1, none⟩ (.int .i64 (u : Nat))).setCell ⟨b1, l * 3 + 2, none⟩ (.int .i64 (n - 1))) pb b1 b2 (ln.set l ⟨f, (u : Nat), (n - 1)⟩) (lk.set u ⟨zl, (-1)⟩) := by
    have := h2.setN hl2 (n - 1)
    rw [List.set_set] at this
    exact this
  have hl3 : (ln.set l ⟨f, (u : Nat), (n - 1)⟩)[l]? = some ⟨f, (u : Nat), (n - 1)⟩ := List.getElem?_set_self hlt
  have hp3 := hp2
  have hu3 := hu2
  have ke_3 : (((w2.setCell ⟨b2, u * 2 + 1, none⟩ (.int .i64 (-1))).setCell ⟨b1, l * 3 + 1, none⟩ (.int .i64 (u : Nat))).setCell ⟨b1, l * 3 + 2, none⟩ (.int .i64 (n - 1))).cell? ⟨b2, p * 2, none⟩ = some (.int .i64 yl) := (h3.lk_ hp3).1
  have fe_3 := h3.f2 (p * 2)
  have c1_3 := h3.c1
  simp only [List.length_set] at c1_3
  have h4 : CAt ((((w2.setCell ⟨b2, u * 2 + 1, none⟩ (.int .i64 (-1))).setCell ⟨b1, l * 3 + 1, none⟩ (.int .i64 (u : Nat))).setCell ⟨b1, l * 3 + 2, none⟩ (.int .i64 (n - 1))).setCell ⟨b2, p * 2, none⟩ (.int .i64 (-1))) pb b1 b2 (ln.set l ⟨f, (u : Nat), (n - 1)⟩) ((lk.set u ⟨zl, (-1)⟩).set p ⟨(-1), (-1)⟩) := by
    have := h3.setLine hp3 (-1)
    exact this
  have hl4 := hl3
  have hp4 : ((lk.set u ⟨zl, (-1)⟩).set p ⟨(-1), (-1)⟩)[p]? = some ⟨(-1), (-1)⟩ := List.getElem?_set_self (by (try simp only [List.length_set]); exact hltp)
  have hu4 : ((lk.set u ⟨zl, (-1)⟩).set p ⟨(-1), (-1)⟩)[u]? = some ⟨zl, (-1)⟩ := by
    rw [List.getElem?_set_ne (by omega)]
    have := hu3
    exact this
  have kg_4 : ((((w2.setCell ⟨b2, u * 2 + 1, none⟩ (.int .i64 (-1))).setCell ⟨b1, l * 3 + 1, none⟩ (.int .i64 (u : Nat))).setCell ⟨b1, l * 3 + 2, none⟩ (.int .i64 (n - 1))).setCell ⟨b2, p * 2, none⟩ (.int .i64 (-1))).cell? ⟨b2, p * 2 + 1, none⟩ = some (.int .i64 (-1)) := (h4.lk_ hp4).2
  have fg_4 := h4.f2 (p * 2 + 1)
  have h5 : CAt (((((w2.setCell ⟨b2, u * 2 + 1, none⟩ (.int .i64 (-1))).setCell ⟨b1, l * 3 + 1, none⟩ (.int .i64 (u : Nat))).setCell ⟨b1, l * 3 + 2, none⟩ (.int .i64 (n - 1))).setCell ⟨b2, p * 2, none⟩ (.int .i64 (-1))).setCell ⟨b2, p * 2 + 1, none⟩ (.int .i64 (-1))) pb b1 b2 (ln.set l ⟨f, (u : Nat), (n - 1)⟩) ((lk.set u ⟨zl, (-1)⟩).set p ⟨(-1), (-1)⟩) := by
    have := h4.setNext hp4 (-1)
    rw [List.set_set] at this
    exact this
  have hl5 := hl4
  have hp5 : ((lk.set u ⟨zl, (-1)⟩).set p ⟨(-1), (-1)⟩)[p]? = some ⟨(-1), (-1)⟩ := List.getElem?_set_self (by (try simp only [List.length_set]); exact hltp)
  have hu5 : ((lk.set u ⟨zl, (-1)⟩).set p ⟨(-1), (-1)⟩)[u]? = some ⟨zl, (-1)⟩ := by
    rw [List.getElem?_set_ne (by omega)]
    have := hu4
    rw [List.getElem?_set_ne (by omega)] at this
    exact this
  have HF := Lib.hid h5
  have HT : Hid (Two b1 b2 w (((((w2.setCell ⟨b2, u * 2 + 1, none⟩ (.int .i64 (-1))).setCell ⟨b1, l * 3 + 1, none⟩ (.int .i64 (u : Nat))).setCell ⟨b1, l * 3 + 2, none⟩ (.int .i64 (n - 1))).setCell ⟨b2, p * 2, none⟩ (.int .i64 (-1))).setCell ⟨b2, p * 2 + 1, none⟩ (.int .i64 (-1)))) := (Two.setCell (x := ⟨b2, p * 2 + 1, none⟩) (Two.setCell (x := ⟨b2, p * 2, none⟩) (Two.setCell (x := ⟨b1, l * 3 + 2, none⟩) (Two.setCell (x := ⟨b1, l * 3 + 1, none⟩) (Two.setCell (x := ⟨b2, u * 2 + 1, none⟩) p1 (.inr rfl) _) (.inl rfl) _) (.inl rfl) _) (.inr rfl) _) (.inr rfl) _)
  clear p1 h0 hl0 hp0 hu0 h1 hl1 hp1 hu1 h2 hl2 hp2 hu2 h3 hl3 hp3 hu3 h4 hl4 hp4 hu4 h5 hl5 hp5 hu5
  go_wp2
  go_ret2
  exact ⟨rfl, HF.out, HT.out⟩
set_option maxRecDepth 100000 in
set_option maxHeartbeats 2000000 in
theorem cut_mm (pb b1 b2 l k p u v : Nat) (f la n yl zl zn : Int) (ln : List Ln) (lk : List Lk) (w : World) (h : CAt w pb b1 b2 ln lk) (C : Hid (Calls Try.prog 59 #[.pointer (some ⟨pb, 0, none⟩), .int .i64 (l : Nat), .int .i64 (k : Nat)] w fun e w' => e = .returned (.tuple #[.int .i64 (p : Nat), .int .i64 (u : Nat), .bool true]) ∧ ∃ m, w' = w.drewN m))
    (hx : ln[l]? = some ⟨f, la, n⟩) (hy : lk[p]? = some ⟨yl, (v : Nat)⟩) (hz : lk[u]? = some ⟨zl, zn⟩) (hup : u ≠ p) (hn0 : 0 < n) (hn1 : n ≤ 65536) (hll : ln.length ≤ 65536) (hll2 : lk.length ≤ 65536) :
    Calls Try.prog 33 #[.pointer (some ⟨pb, 0, none⟩), .int .i64 (l : Nat), .int .i64 (k : Nat)] w fun e w' => e = .returned (.tuple #[.int .i64 (p : Nat), .bool true]) ∧ CAt w' pb b1 b2 (ln.set l ⟨f, la, n - 1⟩) ((lk.set u ⟨zl, (v : Nat)⟩).set p ⟨-1, -1⟩) ∧ Two b1 b2 w w' := by
  have hlt := lt_of_some hx
  have hltp := lt_of_some hy
  have hwn : IntKind.i64.wrap (n - 1) = n - 1 := IntWalk.i64_in _ (by omega)
  have H := Lib.hid h
  have Hx := Lib.hid hx
  have Hy := Lib.hid hy
  have hltu := lt_of_some hz
  have Hz := Lib.hid hz
  have du : ((u : Int) == -1) = false := beq_false_of_ne (by omega)
  have dv : ((v : Int) == -1) = false := beq_false_of_ne (by omega)
  clear h hx hy hz
  go_enter Try.func33, Try.ntmps33
  go_wp2_with fail
  refine C.out.mono ?_
  rintro e w1 ⟨rfl, m, rfl⟩
  clear C
  have c0 := H.out.c0
  have c1 := H.out.c1
  obtain ⟨a0, b0, d0⟩ := H.out.ln_ Hx.out
  obtain ⟨e0, g0⟩ := H.out.lk_ Hy.out
  go_wp2_with fail
  go_quiet (fail)
  try simp only [World.drewN_drewN]
  have h0 := H.out.drewN (m + nq)
  have p1 := (Two.refl b1 b2 w).drewN (m + nq)
  clear H c0 c1 a0 b0 d0 e0 g0
  generalize w.drewN (m + nq) = w2 at h0 p1 ⊢
  have hl0 := Hx.out
  have hp0 := Hy.out
  have hu0 := Hz.out
  clear Hx Hy Hz
  have kg_0 : w2.cell? ⟨b2, u * 2 + 1, none⟩ = some (.int .i64 zn) := (h0.lk_ hu0).2
  have fg_0 := h0.f2 (u * 2 + 1)
  have c1_0 := h0.c1
  have h1 : CAt (w2.setCell ⟨b2, u * 2 + 1, none⟩ (.int .i64 (v : Nat))) pb b1 b2 ln (lk.set u ⟨zl, (v : Nat)⟩) := by
    have := h0.setNext hu0 (v : Nat)
    exact this
  have hl1 := hl0
  have hp1 : (lk.set u ⟨zl, (v : Nat)⟩)[p]? = some ⟨yl, (v : Nat)⟩ := by
    rw [List.getElem?_set_ne (by omega)]
    have := hp0
    exact this
  have hu1 : (lk.set u ⟨zl, (v : Nat)⟩)[u]? = some ⟨zl, (v : Nat)⟩ := List.getElem?_set_self (by (try simp only [List.length_set]); exact hltu)
  have kd_1 : (w2.setCell ⟨b2, u * 2 + 1, none⟩ (.int .i64 (v : Nat))).cell? ⟨b1, l * 3 + 2, none⟩ = some (.int .i64 n) := (h1.ln_ hl1).2.2
  have fd_1 := h1.f1 (l * 3 + 2)
  have h2 : CAt ((w2.setCell ⟨b2, u * 2 + 1, none⟩ (.int .i64 (v : Nat))).setCell ⟨b1, l * 3 + 2, none⟩ (.int .i64 (n - 1))) pb b1 b2 (ln.set l ⟨f, la, (n - 1)⟩) (lk.set u ⟨zl, (v : Nat)⟩) := by
    have := h1.setN hl1 (n - 1)
    exact this
  have hl2 : (ln.set l ⟨f, la, (n - 1)⟩)[l]? = some ⟨f, la, (n - 1)⟩ := List.getElem?_set_self hlt
  have hp2 := hp1
  have hu2 := hu1
  have ke_2 : ((w2.setCell ⟨b2, u * 2 + 1, none⟩ (.int .i64 (v : Nat))).setCell ⟨b1, l * 3 + 2, none⟩ (.int .i64 (n - 1))).cell? ⟨b2, p * 2, none⟩ = some (.int .i64 yl) := (h2.lk_ hp2).1
  have fe_2 := h2.f2 (p * 2)
  have c1_2 := h2.c1
  simp only [List.length_set] at c1_2
  have h3 : CAt (((w2.setCell ⟨b2, u * 2 + 1, none⟩ (.int .i64 (v : Nat))).setCell ⟨b1, l * 3 + 2, none⟩ (.int .i64 (n - 1))).setCell ⟨b2, p * 2, none⟩ (.int .i64 (-1))) pb b1 b2 (ln.set l ⟨f, la, (n - 1)⟩) ((lk.set u ⟨zl, (v : Nat)⟩).set p ⟨(-1), (v : Nat)⟩) := by
    have := h2.setLine hp2 (-1)
    exact this
  have hl3 := hl2
  have hp3 : ((lk.set u ⟨zl, (v : Nat)⟩).set p ⟨(-1), (v : Nat)⟩)[p]? = some ⟨(-1), (v : Nat)⟩ := List.getElem?_set_self (by (try simp only [List.length_set]); exact hltp)
  have hu3 : ((lk.set u ⟨zl, (v : Nat)⟩).set p ⟨(-1), (v : Nat)⟩)[u]? = some ⟨zl, (v : Nat)⟩ := by
    rw [List.getElem?_set_ne (by omega)]
    have := hu2
    exact this
  have kg_3 : (((w2.setCell ⟨b2, u * 2 + 1, none⟩ (.int .i64 (v : Nat))).setCell ⟨b1, l * 3 + 2, none⟩ (.int .i64 (n - 1))).setCell ⟨b2, p * 2, none⟩ (.int .i64 (-1))).cell? ⟨b2, p * 2 + 1, none⟩ = some (.int .i64 (v : Nat)) := (h3.lk_ hp3).2
  have fg_3 := h3.f2 (p * 2 + 1)
  have h4 : CAt ((((w2.setCell ⟨b2, u * 2 + 1, none⟩ (.int .i64 (v : Nat))).setCell ⟨b1, l * 3 + 2, none⟩ (.int .i64 (n - 1))).setCell ⟨b2, p * 2, none⟩ (.int .i64 (-1))).setCell ⟨b2, p * 2 + 1, none⟩ (.int .i64 (-1))) pb b1 b2 (ln.set l ⟨f, la, (n - 1)⟩) ((lk.set u ⟨zl, (v : Nat)⟩).set p ⟨(-1), (-1)⟩) := by
    have := h3.setNext hp3 (-1)
    rw [List.set_set] at this
    exact this
  have hl4 := hl3
  have hp4 : ((lk.set u ⟨zl, (v : Nat)⟩).set p ⟨(-1), (-1)⟩)[p]? = some ⟨(-1), (-1)⟩ := List.getElem?_set_self (by (try simp only [List.length_set]); exact hltp)
  have hu4 : ((lk.set u ⟨zl, (v : Nat)⟩).set p ⟨(-1), (-1)⟩)[u]? = some ⟨zl, (v : Nat)⟩ := by
    rw [List.getElem?_set_ne (by omega)]
    have := hu3
    rw [List.getElem?_set_ne (by omega)] at this
    exact this
  have HF := Lib.hid h4
  have HT : Hid (Two b1 b2 w ((((w2.setCell ⟨b2, u * 2 + 1, none⟩ (.int .i64 (v : Nat))).setCell ⟨b1, l * 3 + 2, none⟩ (.int .i64 (n - 1))).setCell ⟨b2, p * 2, none⟩ (.int .i64 (-1))).setCell ⟨b2, p * 2 + 1, none⟩ (.int .i64 (-1)))) := (Two.setCell (x := ⟨b2, p * 2 + 1, none⟩) (Two.setCell (x := ⟨b2, p * 2, none⟩) (Two.setCell (x := ⟨b1, l * 3 + 2, none⟩) (Two.setCell (x := ⟨b2, u * 2 + 1, none⟩) p1 (.inr rfl) _) (.inl rfl) _) (.inr rfl) _) (.inr rfl) _)
  clear p1 h0 hl0 hp0 hu0 h1 hl1 hp1 hu1 h2 hl2 hp2 hu2 h3 hl3 hp3 hu3 h4 hl4 hp4 hu4
  go_wp2
  go_ret2
  exact ⟨rfl, HF.out, HT.out⟩
end Go.Proofs.Ytgcfiiidhihkaaa.C.CH
