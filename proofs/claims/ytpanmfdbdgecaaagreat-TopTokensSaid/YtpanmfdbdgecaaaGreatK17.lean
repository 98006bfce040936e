/- The reference's blue: New. · The reference's police: New. (Printed by ref27.py.) · The police: who is the first in the box, and is let send. · Turns of which one at most is awake: Sleep, last, Pick. · Turns of which one at most is awake: Pick. -/
import Derived.Test.YtpanmfdbdgecaaaGreatK16
import Derived.Deep.RegionLaw
import Derived.Lib.SliceRun
import Derived.Laws.IdiomCopy
import Derived.Deep.LoopGhost
import Derived.Handy
namespace Go.Proofs.YtpanmfdbdgecaaaGreat.C
open Go.RowKit
set_option linter.unusedVariables false
def blC (v : Value) (tg hd up dn : Int) : Array Value := #[v, .int .i64 tg, .int .i64 hd, .int .i64 up, .int .i64 dn]
theorem zb20 : (Tryz.prog.info? 92).map (fun i => (i.zero, i.size)) = some (some (.agg (blC (.slice none 0 0) 0 0 0 0)), 5) := by kernel_rfl
theorem build20 (tg hd up dn : Int) (w : World) : (Instr.build 92 #[(1, .int .i64 tg), (2, .int .i64 hd), (3, .int .i64 up), (4, .int .i64 dn)]).run Tryz.prog w = .ok (.agg (blC (.slice none 0 0) tg hd up dn)) w := run_build w 92 _ _ (by kernel_rfl)
set_option maxRecDepth 100000 in
set_option maxHeartbeats 2000000 in
theorem rblue_new (lv bn : Nat) (tg hd up dn : Int) (w : World) (hlv : lv ≤ 1000) (hbn : bn ≤ 1000) :
    Calls Tryz.prog 173 #[.int .i64 (lv : Nat), .int .i64 (bn : Nat), .int .i64 tg, .int .i64 hd, .int .i64 up, .int .i64 dn] w fun e w' => ∃ a n c, e = .returned (.agg (blC (.slice a n c) tg hd up dn)) ∧ Below w.heap.size w w' := by
  obtain ⟨C, hC⟩ := make_any (t := 346) (e := 403) (z := .agg #[.int .i64 0, .int .i64 0, .int .i64 0]) (sz := 3) (bytes := 24) Tryz.underlying346 (by kernel_rfl) (by omega) bn (by omega)
  have HC := Lib.hid hC
  clear hC
  obtain ⟨i0, hi, hz0, hz1, hz2⟩ := info_parts (show (Tryz.prog.info? 346).map (fun i => (i.zero, i.size, i.bytes)) = some (some (.slice none 0 0), 1, 24) by kernel_rfl)
  have HB0 := Lib.hid (build20 tg hd up dn)
  have HI := Lib.hid (And.intro hi (And.intro hz0 (And.intro hz1 hz2)))
  clear hi hz0 hz1 hz2
  have hz := zb20
  have hzs : (blC (.slice none 0 0) 0 0 0 0).size = 5 := rfl
  generalize blC (.slice none 0 0) 0 0 0 0 = Z at *
  have HZ := Lib.hid hz
  have HZS := Lib.hid hzs
  clear hz hzs
  refine calls_hide fun Q HQ => ?_
  go_enter Tryz.func173, Tryz.ntmps173
  go_upto_region 1 with ((with_reducible refine arm_alloc 12 92 Z 5 HZ.out ?_); intro w1 HB HX HS)
  have hb1 := HB0.out w1
  have hall : (blC (.slice none 0 0) tg hd up dn).all (·.oneCell') = true := by kernel_rfl
  have h5 : (Tryz.prog.info? 92).map (·.size) = some 5 := by kernel_rfl
  obtain ⟨D, hD⟩ : ∃ D, blC (.slice none 0 0) tg hd up dn = D := ⟨_, rfl⟩
  have hds : D.size = 5 := by rw [← hD]; rfl
  rw [hD] at hb1 hall
  have HDS := Lib.hid hds
  have HD := Lib.hid hD
  have HDL := Lib.hid hall
  have H5 := Lib.hid h5
  clear hds hD hall h5
  go_upto_region 2 with (first | ((with_reducible refine arm_build 18 92 _ #[(1, .int .i64 tg), (2, .int .i64 hd), (3, .int .i64 up), (4, .int .i64 dn)] _ hb1 ?_ ?_); (first | rfl | (focus (simp [Act.eval]; done)) | simp [Act.eval, Act.put])) | ((with_reducible refine arm_alloc 13 92 Z 5 HZ.out ?_); intro w2 HBb HXb HSb; have hst := box_store (t := 92) (x := D) HXb.out (by rw [H5.out, HDS.out]) HDL.out (HZS.out.trans HDS.out.symm)) | ((with_reducible refine arm_store 13 18 92 _ _ _ hst ?_ ?_ ?_); rfl; rfl))
  have hX3 := box_whole HXb.out (cs := D) (HDS.out.trans HZS.out.symm)
  have hB3 := below_setCells (b := w1.heap.size) (Nat.le_refl _) D.toList 0 HBb.out
  clear hst hb1
  generalize w2.setCells w1.heap.size 0 D.toList = w3 at *
  rw [← HD.out] at hX3
  have HR3 := Lib.hid (keep_block hB3 HX.out)
  have HX3 := Lib.hid hX3
  have HB3 := Lib.hid (HB.out.trans (hB3.mono HB.out.size))
  have hbl : w1.heap.size < w3.heap.size := (Array.getElem?_eq_some_iff.1 hX3).1
  have hrl : w.heap.size ≤ w1.heap.size := HB.out.size
  have hrl2 : w.heap.size < w1.heap.size := (Array.getElem?_eq_some_iff.1 HX.out).1
  obtain ⟨bb, hbb⟩ : ∃ b, b = w1.heap.size := ⟨_, rfl⟩
  rw [← hbb] at HX3 hbl hrl hrl2 ⊢
  obtain ⟨base, hbase⟩ : ∃ b, b = w3.heap.size := ⟨_, rfl⟩
  have HBS := Lib.hid (show w.heap.size < bb ∧ bb < base from ⟨hrl2, by omega⟩)
  have HO0 := Lib.hid (World.ownsRow_nil w3 base 346 1)
  have HBE := Lib.hid hbase
  clear hX3 hB3 HX HB HS HBb HXb HSb hbl hrl hrl2 hbb hbase HD HDL HDS
  go_wp2_with fail
  go_loopw [20] (fun t wr => ∃ (k : Nat) (v : Value) (xs : List Value), k ≤ lv ∧ t = .int .i64 (k : Nat) ∧ wr.heap[bb]? = some (.cells (blC v tg hd up dn) 92 (0, 0)) ∧ wr.heap[w.heap.size]? = some (.cells Z 92 (0, 0)) ∧ wr.ownsRow base 346 1 v k xs ∧ Below w.heap.size w wr ∧ base ≤ wr.heap.size) (fun t _ => (lv - intOf t).toNat)
  case atStart => exact ⟨0, _, [], by omega, rfl, HX3.out, HR3.out, HO0.out, HB3.out, by have := HBE.out; omega⟩
  case round =>
    obtain ⟨k, v, xs, hk, rfl, hX, hR, hO, hBw, hge⟩ := hrel
    have HX := Lib.hid hX
    have HR := Lib.hid hR
    have HO := Lib.hid hO
    have HBW := Lib.hid hBw
    have HGE := Lib.hid hge
    clear hX hR hO hBw hge HX3 HR3 HB3 HBE
    by_cases hkl : k = lv
    · subst hkl
      have hv : ∃ a n c, v = .slice a n c := by
        rcases HO.out.2 with ⟨rfl, _⟩ | ⟨g, cap, cur, rfl, _⟩
        · exact ⟨_, _, _, rfl⟩
        · exact ⟨_, _, _, rfl⟩
      obtain ⟨a, n, c, rfl⟩ := hv
      have hall : (blC (.slice a n c) tg hd up dn).all (·.oneCell') = true := by kernel_rfl
      obtain ⟨D, hD⟩ : ∃ D, blC (.slice a n c) tg hd up dn = D := ⟨_, rfl⟩
      have hds : D.size = 5 := by rw [← hD]; rfl
      have hX := HX.out
      rw [hD] at hall hX
      have hsz : (Tryz.prog.info? 92).map (·.size) = some D.size := by rw [H5.out, hds]
      have hld := box_load (t := 92) hX _ Tryz.underlying92 rfl hsz
      have hst := box_store (t := 92) (x := D) HR.out hsz hall (HZS.out.trans hds.symm)
      have hbx := Lib.hid (box_whole (cs := D) HR.out (hds.trans HZS.out.symm))
      have hf := Lib.hid (below_setCells (b := w.heap.size) (Nat.le_refl _) D.toList 0 HBW.out)
      have HD := Lib.hid hD
      have HSZ := Lib.hid hsz
      clear hD hX hds hall hsz HX HR HO HBW
      go_wp2_with (first | ((with_reducible refine arm_load 30 13 92 _ _ hld ?_ ?_); rfl) | ((with_reducible refine arm_store 12 30 92 _ _ _ hst ?_ ?_ ?_); rfl; rfl))
      refine bodyPost_ret (results_cell_row rfl _ _ _ _ _ _ _ rfl hbx.out Tryz.underlying92 rfl HSZ.out) rfl ?_
      exact HQ.out _ _ ⟨a, n, c, by rw [HD.out], hf.out⟩
    · have hlt : (k : Int) < (lv : Int) := by omega
      have hw0 : IntKind.i64.wrap ((k : Int) + 1) = ((k + 1 : Nat) : Int) := by rw [IntWalk.i64_in _ (by omega)]; omega
      go_wp2_with fail
      have hk0 : wr.drew.cell? ⟨bb, 0, none⟩ = some v := cells_of_row (w := wr.drew) HX.out 0 _ rfl
      have hmk := HC.out wr.drew
      have hOc := ((HO.out.alloc (.cells C 403)).alloc (.cells #[.slice (some ⟨wr.heap.size, 0, none⟩) bn bn] 346))
      have hbn0 := Go.heap_alloc_new (wr.alloc (.cells C 403)) (.cells #[.slice (some ⟨wr.heap.size, 0, none⟩) bn bn] 346)
      have hsz1 : (wr.alloc (.cells C 403)).heap.size = wr.heap.size + 1 := by simp
      rw [hsz1] at hbn0
      have hBW2 : Below wr.heap.size wr ((wr.alloc (.cells C 403)).alloc (.cells #[.slice (some ⟨wr.heap.size, 0, none⟩) bn bn] 346)) := ((Below.refl _ _).alloc (Nat.le_refl _) _).alloc (by rw [hsz1]; omega) _
      obtain ⟨i1, i2, i3, i4⟩ := HI.out
      have hmx : k + 1 ≤ maxLen := by simp only [maxLen]; omega
      obtain ⟨v', W3, hr, hown', hgr, _⟩ := run_append_own (P := Tryz.prog) ((wr.alloc (.cells C 403)).alloc (.cells #[.slice (some ⟨wr.heap.size, 0, none⟩) bn bn] 346)).drew base 90 90 346 i0 (.slice none 0 0) 1 24 Tryz.underlying90 i1 i2 i3 i4 rfl (by omega) v k xs hOc ⟨wr.heap.size + 1, 0, none⟩ 1 1 [.slice (some ⟨wr.heap.size, 0, none⟩) bn bn] rfl (fun j u hu => by
        rcases Nat.eq_zero_or_pos j with rfl | hj
        · obtain rfl : Value.slice (some ⟨wr.heap.size, 0, none⟩) bn bn = u := by simpa using hu
          exact cells_of_row (w := ((wr.alloc (.cells C 403)).alloc (.cells #[.slice (some ⟨wr.heap.size, 0, none⟩) bn bn] 346)).drew) hbn0 0 _ rfl
        · rw [List.getElem?_eq_none (by simp; omega)] at hu
          cases hu) (fun u hu => by rw [List.mem_singleton.1 hu]; rfl) hmx (by omega) (Nat.le_trans HGE.out hBW2.size)
      have hown : ∀ q, v.ownBlock = some q → base ≤ q := fun q hq => (HO.out.lt q hq).1
      have hne : ∀ q, q < base → some q ≠ v.ownBlock := fun q hq e => by
        have := hown q e.symm
        omega
      have hbb := HBS.out
      have hsizes : wr.heap.size ≤ ((wr.alloc (.cells C 403)).alloc (.cells #[.slice (some ⟨wr.heap.size, 0, none⟩) bn bn] 346)).drew.heap.size := hBW2.size
      have keep : ∀ (q : Nat) (o : Obj), q < base → wr.heap[q]? = some o → W3.heap[q]? = some o := fun q o hq ho =>
        (hgr.block q (by have := HGE.out; omega) (hne q hq)).trans ((hBW2.block q (by have := HGE.out; omega)).trans ho)
      have hvs : ∃ a n c, v' = .slice a n c := by
        rcases hown'.2 with ⟨rfl, _⟩ | ⟨g, cap, cur, rfl, _⟩
        · exact ⟨_, _, _, rfl⟩
        · exact ⟨_, _, _, rfl⟩
      obtain ⟨a9, n9, c9, rfl⟩ := hvs
      have HX3 := Lib.hid (keep bb _ hbb.2 HX.out)
      have HR3 := Lib.hid (keep w.heap.size _ (by omega) HR.out)
      have hBW3 : Below w.heap.size w W3 := ⟨hgr.os.trans (hBW2.os.trans HBW.out.os), hgr.tape.trans (hBW2.tape.trans HBW.out.tape), hgr.output.trans (hBW2.output.trans HBW.out.output), Nat.le_trans HBW.out.size (Nat.le_trans hsizes hgr.size), fun q hq => (hgr.block q (by have := HGE.out; omega) (hne q (by omega))).trans ((hBW2.block q (by have := HGE.out; omega)).trans (HBW.out.block q hq))⟩
      have HB3 := Lib.hid hBW3
      have HO3 := Lib.hid hown'
      have HG3 := Lib.hid (show base ≤ W3.heap.size from Nat.le_trans HGE.out (Nat.le_trans hsizes hgr.size))
      have kx := cells_of_row HX3.out 0 _ rfl
      have fx := frozen_of_row _ _ 0 _ _ HX3.out
      have HRN := Lib.hid hr
      clear hOc hbn0 hsz1 hBW2 hown' hgr hown hne hbb hsizes keep hBW3 hr hmx i1 i2 i3 i4
      refine wp_region_held_drew (S := fun _ => True) (by kernel_rfl) trivial (fun hHeld => ?_)
      refine wpAnyH_take (i := 0) (oi := ⟨some 22, _, _, _, _, _⟩) (v := ?_) rfl (by kernel_rfl) (by kernel_rfl) (by kernel_rfl) (fun _ _ _ h => h) (Or.inl ⟨by rfl, ?_⟩) hHeld ?_
      rotate_left
      · intro w hSw
        go_simp
        try with_reducible rfl
      try simp only [Act.put, List.setIfInBounds_toArray, List.set_cons_zero, List.set_cons_succ]
      refine wpAnyH_take (i := 2) (oi := ⟨some 24, _, _, _, _, _⟩) (v := ?_) rfl (by kernel_rfl) (by kernel_rfl) (by kernel_rfl) (fun _ _ _ h => h) (Or.inl ⟨by rfl, ?_⟩) hHeld ?_
      rotate_left
      · intro w hSw
        go_simp
        try with_reducible rfl
      try simp only [Act.put, List.setIfInBounds_toArray, List.set_cons_zero, List.set_cons_succ]
      refine wpAnyH_ready (rs := [1, 3]) (by kernel_rfl) (by simp) ?_
      refine AllReadyH.cons rfl (fun K hK => ?ordA) (AllReadyH.cons rfl (fun K hK => ?ordB) AllReadyH.nil)
      case' ordA =>
        go_simp
        refine hK.out _ _ (trivial) (fun hHeld => ?_)
        clear hK K
        refine wpAnyH_ready (rs := [3]) (by kernel_rfl) (by simp) ?_
        refine AllReadyH.cons rfl (fun K hK => ?_) AllReadyH.nil
        go_simp
        refine hK.out _ _ (trivial) (fun hHeld => ?_)
        clear hK K
        refine wpAnyH_ready (rs := [4]) (by kernel_rfl) (by simp) ?_
        refine AllReadyH.cons rfl (fun K hK => ?_) AllReadyH.nil
        go_simp
        refine hK.out _ _ (trivial) (fun hHeld => ?_)
        clear hK K
      case' ordB =>
        go_simp
        refine hK.out _ _ (trivial) (fun hHeld => ?_)
        clear hK K
        have hk1 : (wr.alloc (.cells C 403)).drew.cell? ⟨bb, 0, none⟩ = some v := cells_of_row (w := (wr.alloc (.cells C 403)).drew) (keep_block (w := wr) ((Below.refl _ _).alloc (Nat.le_refl _) _).drew HX.out) 0 _ rfl
        refine wpAnyH_ready (rs := [1, 4]) (by kernel_rfl) (by simp) ?_
        refine AllReadyH.cons rfl (fun K hK => ?ordB1) (AllReadyH.cons rfl (fun K hK => ?ordB2) AllReadyH.nil)
      case' ordB1 =>
        go_simp
        refine hK.out _ _ (trivial) (fun hHeld => ?_)
        clear hK K
        refine wpAnyH_ready (rs := [4]) (by kernel_rfl) (by simp) ?_
        refine AllReadyH.cons rfl (fun K hK => ?_) AllReadyH.nil
        go_simp
        refine hK.out _ _ (trivial) (fun hHeld => ?_)
        clear hK K
      case' ordB2 =>
        go_simp
        refine hK.out _ _ (trivial) (fun hHeld => ?_)
        clear hK K
        have hk2 : ((wr.alloc (.cells C 403)).alloc (.cells #[.slice (some ⟨wr.heap.size, 0, none⟩) bn bn] 346)).drew.cell? ⟨bb, 0, none⟩ = some v := cells_of_row (w := ((wr.alloc (.cells C 403)).alloc (.cells #[.slice (some ⟨wr.heap.size, 0, none⟩) bn bn] 346)).drew) (keep_block (w := wr) (((Below.refl _ _).alloc (Nat.le_refl _) _).alloc (by simp) _).drew HX.out) 0 _ rfl
        refine wpAnyH_ready (rs := [1]) (by kernel_rfl) (by simp) ?_
        refine AllReadyH.cons rfl (fun K hK => ?_) AllReadyH.nil
        go_simp
        refine hK.out _ _ (trivial) (fun hHeld => ?_)
        clear hK K
      all_goals
        refine wpAnyH_ready (rs := [5]) (by kernel_rfl) (by simp) ?_
        refine AllReadyH.cons rfl (fun K hK => ?_) AllReadyH.nil
        refine step_append_run 23 26 90 _ _ _ _ HRN.out rfl rfl ?_
        refine hK.out _ _ (trivial) (fun hHeld => ?_)
        clear hK K
        refine wpAnyH_take (i := 6) (oi := ⟨some 28, _, _, _, _, _⟩) (v := ?_) rfl (by kernel_rfl) (by kernel_rfl) (by kernel_rfl) (fun _ _ _ h => h) (Or.inl ⟨by rfl, ?_⟩) hHeld ?_
        rotate_left
        · intro w hSw
          go_simp
          try with_reducible rfl
        try simp only [Act.put, List.setIfInBounds_toArray, List.set_cons_zero, List.set_cons_succ]
        refine wpAnyH_ready (rs := [7]) (by kernel_rfl) (by simp) ?_
        refine AllReadyH.cons rfl (fun K hK => ?_) AllReadyH.nil
        go_simp
        refine hK.out _ _ (trivial) (fun hHeld => ?_)
        clear hK K
        refine wpAnyH_done (by kernel_rfl) ?_ _
        go_wp2_with fail
        refine ⟨⟨k + 1, .slice a9 n9 c9, xs ++ [.slice (some ⟨wr.heap.size, 0, none⟩) bn bn], by omega, rfl, ?_, ?_, ?_, ?_, ?_⟩, ?_⟩
        · rw [heap_setCell_same _ _ _ _ _ _ HX3.out]
          rfl
        · exact (heap_setCell_other _ _ _ _ (by have := HBS.out; simp; omega)).trans HR3.out
        · exact ownsRow_setCell_other HO3.out (a := ⟨bb, 0, none⟩) (by
            intro e
            have := (HO3.out.lt bb e).1
            have := HBS.out
            omega) _
        · exact HB3.out.setCell (p := ⟨bb, 0, none⟩) (by have := HBS.out; show w.heap.size ≤ bb; omega) _
        · simpa using HG3.out
        · simp only [intOf]
          omega
end Go.Proofs.YtpanmfdbdgecaaaGreat.C

namespace Go.Proofs.YtpanmfdbdgecaaaGreat.C
open Go.RowKit
set_option linter.unusedVariables false
theorem Cfg.one {cv : Array Value} {c : Nat → Int} (h : Cfg cv c) : AgT cv 20 := by
  refine ⟨h.size, ?_⟩
  rw [Array.all_eq_true]
  intro i hi
  have := h.at_ i (by have := h.size; omega)
  rw [Array.getElem?_eq_getElem hi] at this
  injection this with this
  rw [this]
  rfl
def btC (n q : Int) : Array Value := #[.int .i64 n, .int .i64 q, .slice none 0 0]
def bxC (a b d e : Int) : Array Value := #[.slice none 0 0, .int .i64 a, .int .i64 b, .int .i64 d, .int .i64 e]
theorem build_rturns (n q : Int) (w : World) : (Instr.build 89 #[(0, .int .i64 n), (1, .int .i64 q)]).run Tryz.prog w = .ok (.agg (btC n q)) w := run_build w 89 _ _ (by kernel_rfl)
theorem build_rbox (a b d e : Int) (w : World) : (Instr.build 101 #[(1, .int .i64 a), (2, .int .i64 b), (3, .int .i64 d), (4, .int .i64 e)]).run Tryz.prog w = .ok (.agg (bxC a b d e)) w := run_build w 101 _ _ (by kernel_rfl)
theorem build_rblues (x : Option Addr) (n m : Nat) (a b d e : Int) (w : World) : (Instr.build 93 #[(0, .agg (blC (.slice x n m) a b d e)), (1, .agg (blC (.slice x n m) a b d e))]).run Tryz.prog w = .ok (.agg (blC (.slice x n m) a b d e ++ blC (.slice x n m) a b d e)) w := run_build w 93 _ _ (by kernel_rfl)
def rpPl : List (Nat × Nat) := [(0, 20), (20, 36), (56, 2), (58, 3), (61, 3), (64, 10), (74, 6), (80, 5), (85, 1)]
theorem zrp : (Tryz.prog.info? 103).map (fun i => (i.zero, i.size)) = some (some (.agg (zc 103)), 86) := by kernel_rfl
theorem zrp_ok : AgT (zc 103) 86 := ⟨by kernel_rfl, by kernel_rfl⟩
theorem build_rp {cv XG XS XQ XT XB XW XX : Array Value} (h0 : AgT cv 20) (h1 : AgT XG 36) (h2 : AgT XS 2) (h3 : AgT XQ 3) (h4 : AgT XT 3) (h5 : AgT XB 10) (h6 : AgT XW 6) (h7 : AgT XX 5) :
    ∃ X, AgT X 86 ∧ ∀ w, (Instr.build 103 #[(0, .agg cv), (1, .agg XG), (2, .agg XS), (3, .agg XQ), (4, .agg XT), (5, .agg XB), (6, .agg XW), (7, .agg XX)]).run Tryz.prog w = .ok (.agg X) w := by
  obtain ⟨X, a, b, _⟩ := build_ag (P := Tryz.prog) (places := rpPl) Tryz.underlying103 zrp zrp_ok (by kernel_rfl) #[(0, .agg cv), (1, .agg XG), (2, .agg XS), (3, .agg XQ), (4, .agg XT), (5, .agg XB), (6, .agg XW), (7, .agg XX)]
    ⟨⟨_, rfl, h0.size, by decide⟩, ⟨_, rfl, h1.size, by decide⟩, ⟨_, rfl, h2.size, by decide⟩, ⟨_, rfl, h3.size, by decide⟩, ⟨_, rfl, h4.size, by decide⟩, ⟨_, rfl, h5.size, by decide⟩, ⟨_, rfl, h6.size, by decide⟩, ⟨_, rfl, h7.size, by decide⟩, trivial⟩
    (fun p hp => by
      simp only [List.mem_cons, List.not_mem_nil, or_false] at hp
      rcases hp with rfl | rfl | rfl | rfl | rfl | rfl | rfl | rfl
      · exact ag_cells h0
      · exact ag_cells h1
      · exact ag_cells h2
      · exact ag_cells h3
      · exact ag_cells h4
      · exact ag_cells h5
      · exact ag_cells h6
      · exact ag_cells h7)
  exact ⟨X, a, b⟩
set_option maxRecDepth 100000 in
set_option maxHeartbeats 8000000 in
theorem rpolice_new (cv kv : Array Value) (c : Nat → Int) (w : World) (hv : Cfg cv c) (hk : kv.size = 16) (h1 : kv.all (·.oneCell') = true) (hb : 1 ≤ c 0 ∧ c 0 ≤ 64) (hlv : 1 ≤ c 2 ∧ c 2 ≤ 4) (hbn : 1 ≤ c 3 ∧ c 3 ≤ 64) :
    Calls Tryz.prog 146 #[.agg cv, .agg kv] w fun e w' => ∃ X, e = .returned (.agg X) ∧ AgT X 86 ∧ Below w.heap.size w w' := by
  obtain ⟨lv, hlv2⟩ := Int.eq_ofNat_of_zero_le (show 0 ≤ c 2 by omega)
  obtain ⟨bn, hbn2⟩ := Int.eq_ofNat_of_zero_le (show 0 ≤ c 3 by omega)
  obtain ⟨n, hn⟩ : ∃ n : Nat, 2 * c 0 + 1 = (n : Int) := ⟨(2 * c 0 + 1).toNat, by omega⟩
  have hw0 : IntKind.i64.wrap (2 * c 0) = 2 * c 0 := IntWalk.i64_in _ (by omega)
  have hw1 : IntKind.i64.wrap (n : Int) = (n : Int) := IntWalk.i64_in _ (by omega)
  have CB := Lib.hid (fun w' => rblue_new lv bn (c 13) (c 14) (c 4) (c 5) w' (by omega) (by omega))
  have CG := Lib.hid (fun w' => rgens_new (c 0) kv w' hk h1)
  have CS := Lib.hid (fun w' => rstore_new n (c 1) w' (by omega))
  have CQ := Lib.hid (fun w' => rquota_new n (c 9) (c 10) w' (by omega))
  have CW := Lib.hid (fun w' => rwindow_new (c 6) (c 15) (c 16) w')
  have HV := Lib.hid hv
  have HK := Lib.hid hk
  have hz := zrp
  have hzs := zrp_ok.size
  generalize zc 103 = Z at *
  have HZ := Lib.hid hz
  have HZS := Lib.hid hzs
  have hcs : (Tryz.prog.info? 78).map (·.size) = some cv.size := by rw [hv.size]; kernel_rfl
  have HCS := Lib.hid hcs
  have HLV := Lib.hid hlv2
  have HBN := Lib.hid hbn2
  clear hz hzs hv hk h1 hb hlv hbn hcs hlv2 hbn2
  refine calls_hide fun Q HQ => ?_
  go_enter Tryz.func146, Tryz.ntmps146
  go_upto_region 1 with (first | ((with_reducible refine arm_box 2 0 78 cv ?_ ?_); rfl; intro w1 HB1 HX1 HS1) | ((with_reducible refine arm_box 3 1 22 kv ?_ ?_); rfl; intro w2 HB2 HX2 HS2) | ((with_reducible refine arm_alloc 4 103 Z 86 HZ.out ?_); intro w3 HB3 HX3 HS3))
  have B3 := Lib.hid ((HB1.out.trans (HB2.out.mono HB1.out.size)).trans (HB3.out.mono (Nat.le_trans HB1.out.size HB2.out.size)))
  have C3 := Lib.hid (keep_block HB3.out (keep_block HB2.out HX1.out))
  have K3 := Lib.hid (keep_block HB3.out HX2.out)
  have R3 := Lib.hid HX3.out
  have hrb : w.heap.size ≤ w2.heap.size := Nat.le_trans HB1.out.size HB2.out.size
  generalize w1.heap.size = kb at *
  generalize w2.heap.size = rb at *
  have HRB := Lib.hid hrb
  clear HB1 HX1 HS1 HB2 HX2 HS2 HB3 HX3 HS3 hrb
  have HCELL : Hid (∀ w', Below w3.heap.size w3 w' → ∀ i, i < 20 → w'.cell? ⟨w.heap.size, i, none⟩ = some (.int .i64 (c i))) := Lib.hid fun w' q i hi => HV.out.cell (keep_block q C3.out) i hi
  have hc0 := HCELL.out w3 (Below.refl _ _) 0 (by decide)
  have hc2 := HCELL.out w3 (Below.refl _ _) 2 (by decide)
  have hc3 := HCELL.out w3 (Below.refl _ _) 3 (by decide)
  have hc13 := HCELL.out w3 (Below.refl _ _) 13 (by decide)
  have hc14 := HCELL.out w3 (Below.refl _ _) 14 (by decide)
  have hc4 := HCELL.out w3 (Below.refl _ _) 4 (by decide)
  have hc5 := HCELL.out w3 (Below.refl _ _) 5 (by decide)
  rw [HLV.out] at hc2
  rw [HBN.out] at hc3
  go_wp2_with fail
  refine (CB.out _).mono ?_
  rintro e w4 ⟨x0, x1, x2, rfl, hB4⟩
  have HB4 := Lib.hid hB4
  clear hB4 hc0 hc2 hc3 hc13 hc14 hc4 hc5 CB
  have hDa : (blC (.slice x0 x1 x2) (c 13) (c 14) (c 4) (c 5)).all (·.oneCell') = true := by kernel_rfl
  have HBB := Lib.hid (build_rblues x0 x1 x2 (c 13) (c 14) (c 4) (c 5))
  have hbb : AgT (blC (.slice x0 x1 x2) (c 13) (c 14) (c 4) (c 5) ++ blC (.slice x0 x1 x2) (c 13) (c 14) (c 4) (c 5)) 10 := ⟨rfl, by kernel_rfl⟩
  obtain ⟨XB, hXB⟩ : ∃ X, blC (.slice x0 x1 x2) (c 13) (c 14) (c 4) (c 5) ++ blC (.slice x0 x1 x2) (c 13) (c 14) (c 4) (c 5) = X := ⟨_, rfl⟩
  rw [hXB] at HBB hbb
  obtain ⟨D, hD⟩ : ∃ D, blC (.slice x0 x1 x2) (c 13) (c 14) (c 4) (c 5) = D := ⟨_, rfl⟩
  have hds : D.size = 5 := by rw [← hD]; rfl
  rw [hD] at hDa HBB ⊢
  have h5 : (Tryz.prog.info? 92).map (·.size) = some D.size := by rw [hds]; kernel_rfl
  have hzb := zb20
  have hzbs : (blC (.slice none 0 0) 0 0 0 0).size = 5 := rfl
  generalize blC (.slice none 0 0) 0 0 0 0 = ZB at *
  have HZB := Lib.hid hzb
  have H5 := Lib.hid h5
  have HDA := Lib.hid hDa
  have HDE := Lib.hid (hzbs.trans hds.symm)
  have HXB := Lib.hid hbb
  clear hXB hD hds h5 hzb hzbs hDa hbb
  go_upto_region 3 with (first | ((with_reducible refine arm_alloc 6 92 ZB 5 HZB.out ?_); intro w5 HBb HXb HSb; have hst := box_store (t := 92) (x := D) HXb.out H5.out HDA.out HDE.out) | ((with_reducible refine arm_store 6 23 92 _ _ _ hst ?_ ?_ ?_); rfl; rfl))
  have hX6 := box_whole HXb.out (cs := D) HDE.out.symm
  have hB6 := below_setCells (b := w4.heap.size) (Nat.le_refl _) D.toList 0 HBb.out
  clear hst HBb HXb HSb
  generalize w5.setCells w4.heap.size 0 D.toList = w6 at *
  generalize w4.heap.size = bb at hX6 ⊢
  have B36 : Below w3.heap.size w3 w6 := HB4.out.trans (hB6.mono HB4.out.size)
  have HB36 := Lib.hid B36
  have HX6 := Lib.hid hX6
  have hL : Hid (∀ w', Two rb rb w6 w' → (w'.cell? ⟨w.heap.size, 0, none⟩ = some (.int .i64 (c 0)) ∧ w'.cell? ⟨w.heap.size, 1, none⟩ = some (.int .i64 (c 1)) ∧ w'.cell? ⟨w.heap.size, 9, none⟩ = some (.int .i64 (c 9)) ∧ w'.cell? ⟨w.heap.size, 10, none⟩ = some (.int .i64 (c 10)) ∧ w'.cell? ⟨w.heap.size, 8, none⟩ = some (.int .i64 (c 8)) ∧ w'.cell? ⟨w.heap.size, 6, none⟩ = some (.int .i64 (c 6)) ∧ w'.cell? ⟨w.heap.size, 15, none⟩ = some (.int .i64 (c 15)) ∧ w'.cell? ⟨w.heap.size, 16, none⟩ = some (.int .i64 (c 16)) ∧ w'.cell? ⟨w.heap.size, 7, none⟩ = some (.int .i64 (c 7)) ∧ w'.cell? ⟨w.heap.size, 17, none⟩ = some (.int .i64 (c 17)) ∧ w'.cell? ⟨w.heap.size, 18, none⟩ = some (.int .i64 (c 18)) ∧ w'.cell? ⟨w.heap.size, 19, none⟩ = some (.int .i64 (c 19))) ∧ (Instr.loadAt 78 (.pointer (some ⟨w.heap.size, 0, none⟩))).run Tryz.prog w' = .ok (.agg cv) w' ∧ (Instr.loadAt 22 (.pointer (some ⟨kb, 0, none⟩))).run Tryz.prog w' = .ok (.agg kv) w' ∧ (Instr.loadAt 92 (.pointer (some ⟨bb, 0, none⟩))).run Tryz.prog w' = .ok (.agg D) w') := Lib.hid fun w' q => by
    have kk : ∀ b o, w6.heap[b]? = some o → b ≠ rb → w'.heap[b]? = some o := fun b o h hn => (q.block b (Array.getElem?_eq_some_iff.1 h).1 hn hn).trans h
    have r6 := keep_block HB36.out R3.out
    have c6 := keep_block HB36.out C3.out
    have k6 := keep_block HB36.out K3.out
    have c7 := kk _ _ c6 (ne_ty c6 r6 (by decide))
    exact ⟨⟨HV.out.cell c7 0 (by decide), HV.out.cell c7 1 (by decide), HV.out.cell c7 9 (by decide), HV.out.cell c7 10 (by decide), HV.out.cell c7 8 (by decide), HV.out.cell c7 6 (by decide), HV.out.cell c7 15 (by decide), HV.out.cell c7 16 (by decide), HV.out.cell c7 7 (by decide), HV.out.cell c7 17 (by decide), HV.out.cell c7 18 (by decide), HV.out.cell c7 19 (by decide)⟩, box_load (t := 78) c7 _ Tryz.underlying78 rfl HCS.out, keys_load HK.out (kk _ _ k6 (ne_ty k6 r6 (by decide))), box_load (t := 92) (kk _ _ HX6.out (ne_ty HX6.out r6 (by decide))) _ Tryz.underlying92 rfl H5.out⟩
  have R6 := Lib.hid (keep_block B36 R3.out)
  have B6 := Lib.hid (B3.out.trans (B36.mono B3.out.size))
  clear B36 hB6 hX6 HB4 B3 R3
  have HBT := Lib.hid (build_rturns (n : Nat) (c 8))
  have HBX := Lib.hid (build_rbox (c 7) (c 17) (c 18) (c 19))
  have hbt : AgT (btC (n : Nat) (c 8)) 3 := ⟨rfl, by kernel_rfl⟩
  have hbx : AgT (bxC (c 7) (c 17) (c 18) (c 19)) 5 := ⟨rfl, by kernel_rfl⟩
  generalize btC (n : Nat) (c 8) = XT at *
  generalize bxC (c 7) (c 17) (c 18) (c 19) = XX at *
  have HXT := Lib.hid hbt
  have HXX := Lib.hid hbx
  clear hbt hbx
  go_wp2_with fail
  refine wp_region_held_drew (S := Two rb rb w6) (by kernel_rfl) ((Two.refl rb rb w6).drewN 1) (fun hHeld => ?_)
  refine wpAnyH_take (i := 0) (oi := ⟨some 24, _, _, _, _, _⟩) (v := .agg cv) rfl (by kernel_rfl) (by kernel_rfl) (by kernel_rfl) (fun _ _ _ h => h) (Or.inl ⟨by rfl, fun w hSw => exec_load rfl (hL.out w hSw).2.1⟩) hHeld ?_
  try simp only [Act.put, List.setIfInBounds_toArray, List.set_cons_zero, List.set_cons_succ]
  refine wpAnyH_take (i := 1) (oi := ⟨some 25, _, _, _, _, _⟩) (v := ?_) rfl (by kernel_rfl) (by kernel_rfl) (by kernel_rfl) (fun _ _ _ h => h) (Or.inl ⟨by rfl, ?_⟩) hHeld ?_
  rotate_left
  · intro w hSw
    go_simp
    try with_reducible rfl
  try simp only [Act.put, List.setIfInBounds_toArray, List.set_cons_zero, List.set_cons_succ]
  refine wpAnyH_take (i := 2) (oi := ⟨some 26, _, _, _, _, _⟩) (v := ?_) rfl (by kernel_rfl) (by kernel_rfl) (by kernel_rfl) (fun _ _ _ h => h) (Or.inl ⟨by rfl, ?_⟩) hHeld ?_
  rotate_left
  · intro w hSw
    obtain ⟨⟨k0, k1, k9, k10, k8, k6, k15, k16, k7, k17, k18, k19⟩, _⟩ := hL.out w hSw
    go_simp
    try with_reducible rfl
  try simp only [Act.put, List.setIfInBounds_toArray, List.set_cons_zero, List.set_cons_succ]
  refine wpAnyH_take (i := 3) (oi := ⟨some 27, _, _, _, _, _⟩) (v := .agg kv) rfl (by kernel_rfl) (by kernel_rfl) (by kernel_rfl) (fun _ _ _ h => h) (Or.inl ⟨by rfl, fun w hSw => exec_load rfl (hL.out w hSw).2.2.1⟩) hHeld ?_
  try simp only [Act.put, List.setIfInBounds_toArray, List.set_cons_zero, List.set_cons_succ]
  refine wpAnyH_take (i := 5) (oi := ⟨some 29, _, _, _, _, _⟩) (v := ?_) rfl (by kernel_rfl) (by kernel_rfl) (by kernel_rfl) (fun _ _ _ h => h) (Or.inl ⟨by rfl, ?_⟩) hHeld ?_
  rotate_left
  · intro w hSw
    go_simp
    try with_reducible rfl
  try simp only [Act.put, List.setIfInBounds_toArray, List.set_cons_zero, List.set_cons_succ]
  refine wpAnyH_take (i := 6) (oi := ⟨some 30, _, _, _, _, _⟩) (v := ?_) rfl (by kernel_rfl) (by kernel_rfl) (by kernel_rfl) (fun _ _ _ h => h) (Or.inl ⟨by rfl, ?_⟩) hHeld ?_
  rotate_left
  · intro w hSw
    go_simp
    try with_reducible rfl
  try simp only [Act.put, List.setIfInBounds_toArray, List.set_cons_zero, List.set_cons_succ]
  refine wpAnyH_take (i := 7) (oi := ⟨some 31, _, _, _, _, _⟩) (v := ?_) rfl (by kernel_rfl) (by kernel_rfl) (by kernel_rfl) (fun _ _ _ h => h) (Or.inl ⟨by rfl, ?_⟩) hHeld ?_
  rotate_left
  · intro w hSw
    obtain ⟨⟨k0, k1, k9, k10, k8, k6, k15, k16, k7, k17, k18, k19⟩, _⟩ := hL.out w hSw
    go_simp
    try with_reducible rfl
  try simp only [Act.put, List.setIfInBounds_toArray, List.set_cons_zero, List.set_cons_succ]
  refine wpAnyH_take (i := 9) (oi := ⟨some 33, _, _, _, _, _⟩) (v := ?_) rfl (by kernel_rfl) (by kernel_rfl) (by kernel_rfl) (fun _ _ _ h => h) (Or.inl ⟨by rfl, ?_⟩) hHeld ?_
  rotate_left
  · intro w hSw
    go_simp
    try with_reducible rfl
  try simp only [Act.put, List.setIfInBounds_toArray, List.set_cons_zero, List.set_cons_succ]
  refine wpAnyH_take (i := 10) (oi := ⟨some 34, _, _, _, _, _⟩) (v := ?_) rfl (by kernel_rfl) (by kernel_rfl) (by kernel_rfl) (fun _ _ _ h => h) (Or.inl ⟨by rfl, ?_⟩) hHeld ?_
  rotate_left
  · intro w hSw
    go_simp
    try with_reducible rfl
  try simp only [Act.put, List.setIfInBounds_toArray, List.set_cons_zero, List.set_cons_succ]
  refine wpAnyH_take (i := 11) (oi := ⟨some 35, _, _, _, _, _⟩) (v := ?_) rfl (by kernel_rfl) (by kernel_rfl) (by kernel_rfl) (fun _ _ _ h => h) (Or.inl ⟨by rfl, ?_⟩) hHeld ?_
  rotate_left
  · intro w hSw
    obtain ⟨⟨k0, k1, k9, k10, k8, k6, k15, k16, k7, k17, k18, k19⟩, _⟩ := hL.out w hSw
    go_simp
    try with_reducible rfl
  try simp only [Act.put, List.setIfInBounds_toArray, List.set_cons_zero, List.set_cons_succ]
  refine wpAnyH_take (i := 12) (oi := ⟨some 36, _, _, _, _, _⟩) (v := ?_) rfl (by kernel_rfl) (by kernel_rfl) (by kernel_rfl) (fun _ _ _ h => h) (Or.inl ⟨by rfl, ?_⟩) hHeld ?_
  rotate_left
  · intro w hSw
    go_simp
    try with_reducible rfl
  try simp only [Act.put, List.setIfInBounds_toArray, List.set_cons_zero, List.set_cons_succ]
  refine wpAnyH_take (i := 13) (oi := ⟨some 37, _, _, _, _, _⟩) (v := ?_) rfl (by kernel_rfl) (by kernel_rfl) (by kernel_rfl) (fun _ _ _ h => h) (Or.inl ⟨by rfl, ?_⟩) hHeld ?_
  rotate_left
  · intro w hSw
    obtain ⟨⟨k0, k1, k9, k10, k8, k6, k15, k16, k7, k17, k18, k19⟩, _⟩ := hL.out w hSw
    go_simp
    try with_reducible rfl
  try simp only [Act.put, List.setIfInBounds_toArray, List.set_cons_zero, List.set_cons_succ]
  refine wpAnyH_take (i := 15) (oi := ⟨some 39, _, _, _, _, _⟩) (v := ?_) rfl (by kernel_rfl) (by kernel_rfl) (by kernel_rfl) (fun _ _ _ h => h) (Or.inl ⟨by rfl, ?_⟩) hHeld ?_
  rotate_left
  · intro w hSw
    go_simp
    try with_reducible rfl
  try simp only [Act.put, List.setIfInBounds_toArray, List.set_cons_zero, List.set_cons_succ]
  refine wpAnyH_take (i := 16) (oi := ⟨some 40, _, _, _, _, _⟩) (v := ?_) rfl (by kernel_rfl) (by kernel_rfl) (by kernel_rfl) (fun _ _ _ h => h) (Or.inl ⟨by rfl, ?_⟩) hHeld ?_
  rotate_left
  · intro w hSw
    go_simp
    try with_reducible rfl
  try simp only [Act.put, List.setIfInBounds_toArray, List.set_cons_zero, List.set_cons_succ]
  refine wpAnyH_take (i := 17) (oi := ⟨some 41, _, _, _, _, _⟩) (v := ?_) rfl (by kernel_rfl) (by kernel_rfl) (by kernel_rfl) (fun _ _ _ h => h) (Or.inl ⟨by rfl, ?_⟩) hHeld ?_
  rotate_left
  · intro w hSw
    obtain ⟨⟨k0, k1, k9, k10, k8, k6, k15, k16, k7, k17, k18, k19⟩, _⟩ := hL.out w hSw
    go_simp
    try with_reducible rfl
  try simp only [Act.put, List.setIfInBounds_toArray, List.set_cons_zero, List.set_cons_succ]
  refine wpAnyH_take (i := 18) (oi := ⟨some 42, _, _, _, _, _⟩) (v := .agg XT) rfl (by kernel_rfl) (by kernel_rfl) (by kernel_rfl) (fun _ _ _ h => h) (Or.inl ⟨by rfl, fun w hSw => exec_build (vals := #[(0, .int .i64 (n : Nat)), (1, .int .i64 (c 8))]) (by simp [Act.eval]) (HBT.out w)⟩) hHeld ?_
  try simp only [Act.put, List.setIfInBounds_toArray, List.set_cons_zero, List.set_cons_succ]
  refine wpAnyH_take (i := 19) (oi := ⟨some 43, _, _, _, _, _⟩) (v := .agg D) rfl (by kernel_rfl) (by kernel_rfl) (by kernel_rfl) (fun _ _ _ h => h) (Or.inl ⟨by rfl, fun w hSw => exec_load rfl (hL.out w hSw).2.2.2⟩) hHeld ?_
  try simp only [Act.put, List.setIfInBounds_toArray, List.set_cons_zero, List.set_cons_succ]
  refine wpAnyH_take (i := 20) (oi := ⟨some 44, _, _, _, _, _⟩) (v := .agg D) rfl (by kernel_rfl) (by kernel_rfl) (by kernel_rfl) (fun _ _ _ h => h) (Or.inl ⟨by rfl, fun w hSw => exec_load rfl (hL.out w hSw).2.2.2⟩) hHeld ?_
  try simp only [Act.put, List.setIfInBounds_toArray, List.set_cons_zero, List.set_cons_succ]
  refine wpAnyH_take (i := 21) (oi := ⟨some 45, _, _, _, _, _⟩) (v := .agg XB) rfl (by kernel_rfl) (by kernel_rfl) (by kernel_rfl) (fun _ _ _ h => h) (Or.inl ⟨by rfl, fun w hSw => exec_build (vals := #[(0, .agg D), (1, .agg D)]) (by simp [Act.eval]) (HBB.out w)⟩) hHeld ?_
  try simp only [Act.put, List.setIfInBounds_toArray, List.set_cons_zero, List.set_cons_succ]
  refine wpAnyH_take (i := 22) (oi := ⟨some 46, _, _, _, _, _⟩) (v := ?_) rfl (by kernel_rfl) (by kernel_rfl) (by kernel_rfl) (fun _ _ _ h => h) (Or.inl ⟨by rfl, ?_⟩) hHeld ?_
  rotate_left
  · intro w hSw
    go_simp
    try with_reducible rfl
  try simp only [Act.put, List.setIfInBounds_toArray, List.set_cons_zero, List.set_cons_succ]
  refine wpAnyH_take (i := 23) (oi := ⟨some 47, _, _, _, _, _⟩) (v := ?_) rfl (by kernel_rfl) (by kernel_rfl) (by kernel_rfl) (fun _ _ _ h => h) (Or.inl ⟨by rfl, ?_⟩) hHeld ?_
  rotate_left
  · intro w hSw
    obtain ⟨⟨k0, k1, k9, k10, k8, k6, k15, k16, k7, k17, k18, k19⟩, _⟩ := hL.out w hSw
    go_simp
    try with_reducible rfl
  try simp only [Act.put, List.setIfInBounds_toArray, List.set_cons_zero, List.set_cons_succ]
  refine wpAnyH_take (i := 24) (oi := ⟨some 48, _, _, _, _, _⟩) (v := ?_) rfl (by kernel_rfl) (by kernel_rfl) (by kernel_rfl) (fun _ _ _ h => h) (Or.inl ⟨by rfl, ?_⟩) hHeld ?_
  rotate_left
  · intro w hSw
    go_simp
    try with_reducible rfl
  try simp only [Act.put, List.setIfInBounds_toArray, List.set_cons_zero, List.set_cons_succ]
  refine wpAnyH_take (i := 25) (oi := ⟨some 49, _, _, _, _, _⟩) (v := ?_) rfl (by kernel_rfl) (by kernel_rfl) (by kernel_rfl) (fun _ _ _ h => h) (Or.inl ⟨by rfl, ?_⟩) hHeld ?_
  rotate_left
  · intro w hSw
    obtain ⟨⟨k0, k1, k9, k10, k8, k6, k15, k16, k7, k17, k18, k19⟩, _⟩ := hL.out w hSw
    go_simp
    try with_reducible rfl
  try simp only [Act.put, List.setIfInBounds_toArray, List.set_cons_zero, List.set_cons_succ]
  refine wpAnyH_take (i := 26) (oi := ⟨some 50, _, _, _, _, _⟩) (v := ?_) rfl (by kernel_rfl) (by kernel_rfl) (by kernel_rfl) (fun _ _ _ h => h) (Or.inl ⟨by rfl, ?_⟩) hHeld ?_
  rotate_left
  · intro w hSw
    go_simp
    try with_reducible rfl
  try simp only [Act.put, List.setIfInBounds_toArray, List.set_cons_zero, List.set_cons_succ]
  refine wpAnyH_take (i := 27) (oi := ⟨some 51, _, _, _, _, _⟩) (v := ?_) rfl (by kernel_rfl) (by kernel_rfl) (by kernel_rfl) (fun _ _ _ h => h) (Or.inl ⟨by rfl, ?_⟩) hHeld ?_
  rotate_left
  · intro w hSw
    obtain ⟨⟨k0, k1, k9, k10, k8, k6, k15, k16, k7, k17, k18, k19⟩, _⟩ := hL.out w hSw
    go_simp
    try with_reducible rfl
  try simp only [Act.put, List.setIfInBounds_toArray, List.set_cons_zero, List.set_cons_succ]
  refine wpAnyH_take (i := 29) (oi := ⟨some 53, _, _, _, _, _⟩) (v := ?_) rfl (by kernel_rfl) (by kernel_rfl) (by kernel_rfl) (fun _ _ _ h => h) (Or.inl ⟨by rfl, ?_⟩) hHeld ?_
  rotate_left
  · intro w hSw
    go_simp
    try with_reducible rfl
  try simp only [Act.put, List.setIfInBounds_toArray, List.set_cons_zero, List.set_cons_succ]
  refine wpAnyH_take (i := 30) (oi := ⟨some 54, _, _, _, _, _⟩) (v := ?_) rfl (by kernel_rfl) (by kernel_rfl) (by kernel_rfl) (fun _ _ _ h => h) (Or.inl ⟨by rfl, ?_⟩) hHeld ?_
  rotate_left
  · intro w hSw
    obtain ⟨⟨k0, k1, k9, k10, k8, k6, k15, k16, k7, k17, k18, k19⟩, _⟩ := hL.out w hSw
    go_simp
    try with_reducible rfl
  try simp only [Act.put, List.setIfInBounds_toArray, List.set_cons_zero, List.set_cons_succ]
  refine wpAnyH_take (i := 31) (oi := ⟨some 55, _, _, _, _, _⟩) (v := ?_) rfl (by kernel_rfl) (by kernel_rfl) (by kernel_rfl) (fun _ _ _ h => h) (Or.inl ⟨by rfl, ?_⟩) hHeld ?_
  rotate_left
  · intro w hSw
    go_simp
    try with_reducible rfl
  try simp only [Act.put, List.setIfInBounds_toArray, List.set_cons_zero, List.set_cons_succ]
  refine wpAnyH_take (i := 32) (oi := ⟨some 56, _, _, _, _, _⟩) (v := ?_) rfl (by kernel_rfl) (by kernel_rfl) (by kernel_rfl) (fun _ _ _ h => h) (Or.inl ⟨by rfl, ?_⟩) hHeld ?_
  rotate_left
  · intro w hSw
    obtain ⟨⟨k0, k1, k9, k10, k8, k6, k15, k16, k7, k17, k18, k19⟩, _⟩ := hL.out w hSw
    go_simp
    try with_reducible rfl
  try simp only [Act.put, List.setIfInBounds_toArray, List.set_cons_zero, List.set_cons_succ]
  refine wpAnyH_take (i := 33) (oi := ⟨some 57, _, _, _, _, _⟩) (v := ?_) rfl (by kernel_rfl) (by kernel_rfl) (by kernel_rfl) (fun _ _ _ h => h) (Or.inl ⟨by rfl, ?_⟩) hHeld ?_
  rotate_left
  · intro w hSw
    go_simp
    try with_reducible rfl
  try simp only [Act.put, List.setIfInBounds_toArray, List.set_cons_zero, List.set_cons_succ]
  refine wpAnyH_take (i := 34) (oi := ⟨some 58, _, _, _, _, _⟩) (v := ?_) rfl (by kernel_rfl) (by kernel_rfl) (by kernel_rfl) (fun _ _ _ h => h) (Or.inl ⟨by rfl, ?_⟩) hHeld ?_
  rotate_left
  · intro w hSw
    obtain ⟨⟨k0, k1, k9, k10, k8, k6, k15, k16, k7, k17, k18, k19⟩, _⟩ := hL.out w hSw
    go_simp
    try with_reducible rfl
  try simp only [Act.put, List.setIfInBounds_toArray, List.set_cons_zero, List.set_cons_succ]
  refine wpAnyH_take (i := 35) (oi := ⟨some 59, _, _, _, _, _⟩) (v := ?_) rfl (by kernel_rfl) (by kernel_rfl) (by kernel_rfl) (fun _ _ _ h => h) (Or.inl ⟨by rfl, ?_⟩) hHeld ?_
  rotate_left
  · intro w hSw
    go_simp
    try with_reducible rfl
  try simp only [Act.put, List.setIfInBounds_toArray, List.set_cons_zero, List.set_cons_succ]
  refine wpAnyH_take (i := 36) (oi := ⟨some 60, _, _, _, _, _⟩) (v := ?_) rfl (by kernel_rfl) (by kernel_rfl) (by kernel_rfl) (fun _ _ _ h => h) (Or.inl ⟨by rfl, ?_⟩) hHeld ?_
  rotate_left
  · intro w hSw
    obtain ⟨⟨k0, k1, k9, k10, k8, k6, k15, k16, k7, k17, k18, k19⟩, _⟩ := hL.out w hSw
    go_simp
    try with_reducible rfl
  try simp only [Act.put, List.setIfInBounds_toArray, List.set_cons_zero, List.set_cons_succ]
  refine wpAnyH_take (i := 37) (oi := ⟨some 61, _, _, _, _, _⟩) (v := .agg XX) rfl (by kernel_rfl) (by kernel_rfl) (by kernel_rfl) (fun _ _ _ h => h) (Or.inl ⟨by rfl, fun w hSw => exec_build (vals := #[(1, .int .i64 (c 7)), (2, .int .i64 (c 17)), (3, .int .i64 (c 18)), (4, .int .i64 (c 19))]) (by simp [Act.eval]) (HBX.out w)⟩) hHeld ?_
  try simp only [Act.put, List.setIfInBounds_toArray, List.set_cons_zero, List.set_cons_succ]
  refine wpAnyH_ready (rs := [4]) (by kernel_rfl) (by simp) ?_
  refine AllReadyH.cons rfl (fun K hK => ?_) AllReadyH.nil
  go_simp
  go_wp2_with (go_at_call 174; go_must (refine (CG.out _).mono ?_; rintro e w4 ⟨XG, rfl, hG, hBG⟩))
  refine hK.out _ _ (two_next hHeld hBG) (fun hHeld => ?_)
  clear hK K
  refine wpAnyH_ready (rs := [8]) (by kernel_rfl) (by simp) ?_
  refine AllReadyH.cons rfl (fun K hK => ?_) AllReadyH.nil
  go_simp
  go_wp2_with (go_at_call 175; go_must (refine (CS.out _).mono ?_; rintro e w8 ⟨XS, rfl, hS, hBS⟩))
  refine hK.out _ _ (two_next hHeld hBS) (fun hHeld => ?_)
  clear hK K
  refine wpAnyH_ready (rs := [14]) (by kernel_rfl) (by simp) ?_
  refine AllReadyH.cons rfl (fun K hK => ?_) AllReadyH.nil
  go_simp
  go_wp2_with (go_at_call 176; go_must (refine (CQ.out _).mono ?_; rintro e w14 ⟨XQ, rfl, hQ, hBQ⟩))
  refine hK.out _ _ (two_next hHeld hBQ) (fun hHeld => ?_)
  clear hK K
  refine wpAnyH_ready (rs := [28]) (by kernel_rfl) (by simp) ?_
  refine AllReadyH.cons rfl (fun K hK => ?_) AllReadyH.nil
  go_simp
  go_wp2_with (go_at_call 177; go_must (refine (CW.out _).mono ?_; rintro e w28 ⟨XW, rfl, hW, hBW⟩))
  refine hK.out _ _ (two_next hHeld hBW) (fun hHeld => ?_)
  clear hK K
  obtain ⟨X, hX, hbX⟩ := build_rp HV.out.one hG hS hQ HXT.out HXB.out hW HXX.out
  have hsz : (Tryz.prog.info? 103).map (·.size) = some X.size := by rw [hX.size]; kernel_rfl
  have hr := keep_block hBW (keep_block hBQ (keep_block hBS (keep_block (w := w6.drew) hBG R6.out)))
  have b1 := B6.out.drew.trans (hBG.mono B6.out.drew.size)
  have b2 := b1.trans (hBS.mono b1.size)
  have b3 := b2.trans (hBQ.mono b2.size)
  have b4 := b3.trans (hBW.mono b3.size)
  have hst := box_store (t := 103) (x := X) hr hsz hX.one (HZS.out.trans hX.size.symm)
  have hbx := Lib.hid (box_whole (cs := X) hr (hX.size.trans HZS.out.symm))
  have hf := Lib.hid (below_setCells (b := rb) HRB.out X.toList 0 b4)
  have HSZ := Lib.hid hsz
  have HX := Lib.hid hX
  refine wpAnyH_take (i := 38) (oi := ⟨some 62, _, _, _, _, _⟩) (v := .agg X) rfl (by kernel_rfl) (by kernel_rfl) (by kernel_rfl) (fun _ _ _ h => h) (Or.inl ⟨by rfl, fun w hSw => exec_build (vals := #[(0, .agg cv), (1, .agg XG), (2, .agg XS), (3, .agg XQ), (4, .agg XT), (5, .agg XB), (6, .agg XW), (7, .agg XX)]) (by simp [Act.eval]) (hbX w)⟩) hHeld ?_
  try simp only [Act.put, List.setIfInBounds_toArray, List.set_cons_zero, List.set_cons_succ]
  refine wpAnyH_ready (rs := [39]) (by kernel_rfl) (by simp) ?_
  refine AllReadyH.cons rfl (fun K hK => ?_) AllReadyH.nil
  refine step_store 4 62 103 _ _ _ hst rfl rfl ?_
  refine hK.out _ _ (Two.setCells (.inl rfl) _ _ hHeld) (fun hHeld => ?_)
  clear hK K
  refine wpAnyH_done (by kernel_rfl) ?_ _
  go_wp2_with fail
  refine bodyPost_ret (results_cell_row rfl _ _ _ _ _ _ _ rfl hbx.out Tryz.underlying103 rfl HSZ.out) rfl ?_
  exact HQ.out _ _ ⟨X, rfl, HX.out, hf.out⟩
end Go.Proofs.YtpanmfdbdgecaaaGreat.C

namespace Go.Proofs.YtpanmfdbdgecaaaGreat.C
open Go.RowKit
set_option linter.unusedVariables false
theorem pfx_all (p0 p1 p2 : Nat) : (pfx p0 p1 p2).all (·.oneCell') = true := by kernel_rfl
theorem pktX_pre (s0 s1 s2 s3 d0 d1 d2 d3 sp dp n : Nat) : PkP (pktX s0 s1 s2 s3 d0 d1 d2 d3 sp dp n) (n : Nat) (pfx s0 s1 s2) := ⟨⟨pktX_pk _ _ _ _ _ _ _ _ _ _ _, by kernel_rfl⟩, by kernel_rfl⟩
/-- The class of the penalty. -/
def penC (F : PCf) : Nat := 2 * (F.c 0).toNat
/-- What the police has when somebody was put into the empty box and has sent. -/
def firstS (F : PCf) (S : PSt) (n now : Int) (x : Array Value) (p0 p1 p2 tb : Nat) (l : List (Array Value)) : PSt :=
  { L := S.L.set (penC F) (l ++ [seqX x S.arr]), sh := QU.addS (F.c 9) (F.c 10) S.sh S.ql (penC F : Nat) n, ql := QU.addL (F.c 9) (F.c 10) S.sh S.ql (penC F : Nat) n, tl := (wakeT S.tl S.line (penC F)).1, line := (wakeT S.tl S.line (penC F)).2, b0 := S.b0, b1 := S.b1, wl := [⟨pfx p0 p1 p2, addC 0 n, 0⟩], wt := addC 0 n, wn := now / F.c 15, xl := one (F.c 7).toNat p0 p1 p2 (addC now (F.c 17)) tb, xn := 1, arr := S.arr + 1, tk := upT (upT S.tk tb (F.c 19 * 1048576, now)) tb (F.c 19 * 1048576 - n * 1048576, now) }
section
variable {w : World} {A : PAd} {F : PCf} {S : PSt}
theorem arrive_first (n now : Int) (x : Array Value) (p0 p1 p2 : Nat) (dr : Array Value) (l : List (Array Value)) (y : Tcl) (hx : PkP x n (pfx p0 p1 p2)) (hb : p0 < 256 ∧ p1 < 256 ∧ p2 < 256) (hn : 1 ≤ n ∧ n ≤ 9216) (h : Pol w A F S) (har : 0 ≤ S.arr ∧ S.arr ≤ 4611686018427387904) (hnow : 0 ≤ now ∧ now ≤ 4611686018427387903)
    (hw : S.wn < now / F.c 15 ∨ (S.wn = now / F.c 15 ∧ S.wl = [] ∧ S.wt = 0)) (ht : F.c 16 ≤ n) (hbx : S.xl = emp (F.c 7).toNat ∧ S.xn = 0) (hterm : now < addC now (F.c 17)) (hbu : n ≤ F.c 19)
    (hok : QU.QOk (F.c 9) (F.c 10) S.sh S.ql) (hl : S.L[penC F]? = some l) (htl : S.tl.length ≤ 129) (hyes : QU.fitsB (F.c 9) (F.c 10) S.sh S.ql (penC F : Nat) n = true) (hroom : total S.L < (F.c 1).toNat) (hy : S.tl[penC F]? = some y) (hlt : y.awake = false → S.line.length < S.tl.length) :
    Calls Tryz.prog 20 #[.pointer (some ⟨A.pb, 0, none⟩), .agg x, .int .i64 now, .agg dr] w fun e w' => ∃ tb lim, e = .returned (.agg #[.int .i64 S.arr, .int .i64 0, .int .i64 (2 * F.c 0), .int .i64 (-1), .bool true, .bool false]) ∧ Pol w' (A.more tb lim) F (firstS F S n now x p0 p1 p2 tb l) ∧ Tur A.tg [1, 3, 4, 5, 6, 7, 8, 9] w w' ∧ w.heap.size ≤ tb := by
  have hr := h.fok.right
  have r7 := hr.room
  have r15 := hr.window
  have r17 := hr.term
  have r18 := hr.rate
  have r19 := hr.burst
  have hpc : (2 * F.c 0 : Int) = (penC F : Nat) := by have := h.pen; unfold penC; omega
  have hrm : 1 ≤ (F.c 7).toNat ∧ (F.c 7).toNat ≤ 64 := by omega
  have ha0 := addC_zero (n := n) ⟨by omega, by omega⟩
  have hlev : levelT (F.c 18) (F.c 19 * 1048576) (F.c 19 * 1048576) now now = F.c 19 * 1048576 := if_pos (Int.le_refl _)
  have htake : takesT (F.c 19 * 1048576) n = true := by unfold takesT; exact decide_eq_true ⟨by omega, by omega, by omega⟩
  refine (arrive_put (F := F) (A := A) (S := S) (S1 := { S with arr := S.arr + 1, wl := [⟨pfx p0 p1 p2, addC 0 n, 0⟩], wt := addC 0 n, wn := now / F.c 15 }) (S2 := { S with arr := S.arr + 1, wl := [⟨pfx p0 p1 p2, addC 0 n, 0⟩], wt := addC 0 n, wn := now / F.c 15, xl := emp (F.c 7).toNat, xn := 0 }) n now 0 x (pfx p0 p1 p2) dr (fun tb => { S with arr := S.arr + 1, wl := [⟨pfx p0 p1 p2, addC 0 n, 0⟩], wt := addC 0 n, wn := now / F.c 15, xl := one (F.c 7).toNat p0 p1 p2 (addC now (F.c 17)) tb, xn := 1, tk := upT S.tk tb (F.c 19 * 1048576, now) }) (fun tb => { S with arr := S.arr + 1, wl := [⟨pfx p0 p1 p2, addC 0 n, 0⟩], wt := addC 0 n, wn := now / F.c 15, xl := one (F.c 7).toNat p0 p1 p2 (addC now (F.c 17)) tb, xn := 1, tk := upT S.tk tb (F.c 19 * 1048576, now) }) (fun tb => firstS F S n now x p0 p1 p2 tb l) hx rfl hn h ⟨by omega, by omega⟩ har ?wa ?in_ ?pu ?i2 ?bo).mono ?_
  case wa =>
    intro w' q
    refine (window_add A.wb A.ws A.wr (F.c 6).toNat S.wl [] [⟨pfx p0 p1 p2, addC 0 n, 0⟩] S.wt 0 (addC 0 n) (F.c 15) (F.c 16) S.wn (now / F.c 15) now n ⟨pfx p0 p1 p2, addC 0 n, 0⟩ (pfx p0 p1 p2) w' q.wi rfl (pfx_all _ _ _) (by omega) hnow ?_ (adds_new A.ws A.wr _ 0 n p0 p1 p2 (by have := hr.slots; omega) hb ⟨by omega, by omega⟩) ⟨pfx_flat _ _ _ hb.1 hb.2.1 hb.2.2, rfl, pfx_all _ _ _⟩ (by simp only [ha0]; omega)).mono ?_
    · rcases hw with hw | ⟨hw, h1, h2⟩
      · exact .inl ⟨hw, rfl, rfl, rfl⟩
      · exact .inr ⟨by omega, h1.symm, h2.symm, hw.symm⟩
    · rintro e w'' ⟨rfl, h1, h2⟩
      have t : Tur A.tg [8] w' w'' := Tur.of_amg h2 (fun k hk => by
        simp only [List.mem_cons, List.not_mem_nil, or_false] at hk
        rcases hk with rfl | rfl | rfl
        · simp [h.ok.w.1]
        · simp [h.ok.w.2.1]
        · simp [h.ok.w.2.2])
      refine ⟨?_, (q.rest t).setW h1, t⟩
      simp only [ha0]
      rw [decide_eq_true (by omega)]
  case in_ =>
    intro w' q
    have hbx' := q.bx
    refine (box_in A.xb A.xt A.xr (F.c 7).toNat S.xl (emp (F.c 7).toNat) S.xn 0 (F.c 17) (F.c 18) (F.c 19) now 0 none false p0 p1 p2 w' q.bx ?_ (emp_gets hrm.1 hrm.2 hb)).mono ?_
    · rw [hbx.1, hbx.2]
      exact sweeps_none (by rw [emp_len]; omega) (tkn_emp _)
    · rintro e w'' ⟨rfl, h1, h2⟩
      have r := q.box h2 h1
      exact ⟨rfl, r.1, r.2⟩
  case pu =>
    intro w' q
    refine (box_put A.xb A.xt A.xr (F.c 7).toNat (emp (F.c 7).toNat) (emp (F.c 7).toNat) 0 0 (F.c 17) (F.c 18) (F.c 19) now (spot0 (F.c 7).toNat p0 p1 p2) p0 p1 p2 w' q.bx (sweeps_none (by rw [emp_len]; omega) (tkn_emp _)) (emp_gets hrm.1 hrm.2 hb) (at1_emp hrm.1 p0 p1 p2) (by rw [emp_len]; exact spot0_lt hrm.1 p0 p1 p2) ⟨by omega, by omega⟩ r18 r19 ⟨hnow.1, by omega⟩).mono ?_
    rintro e w'' ⟨tb, rfl, hge, h1, h2, h3⟩
    have r := q.put (v := (F.c 19 * 1048576, now)) h3 h1 hge h2
    exact ⟨rfl, tb, _, hge, r.1, r.2⟩
  case i2 =>
    intro w' tb lim q
    refine (box_in A.xb A.xt A.xr (F.c 7).toNat _ _ 1 1 (F.c 17) (F.c 18) (F.c 19) now (addC now (F.c 17)) (some ⟨tb, 0, none⟩) true p0 p1 p2 w' q.bx (sweeps_stay (one_gets hrm.1 hrm.2 hb _ _) (tkn_one hrm.1 _ _ _ _ _) hnow.1 hterm) (one_gets hrm.1 hrm.2 hb _ _)).mono ?_
    rintro e w'' ⟨rfl, h1, h2⟩
    have r := q.box h2 h1
    exact ⟨rfl, r.1, r.2⟩
  case bo =>
    intro w' tb lim q
    refine (boxed_yes (F := F) (A := A.more tb lim) (S1 := { S with arr := S.arr + 1, wl := [⟨pfx p0 p1 p2, addC 0 n, 0⟩], wt := addC 0 n, wn := now / F.c 15, xl := one (F.c 7).toNat p0 p1 p2 (addC now (F.c 17)) tb, xn := 1, tk := upT (upT S.tk tb (F.c 19 * 1048576, now)) tb (F.c 19 * 1048576 - n * 1048576, now) }) (S2 := firstS F S n now x p0 p1 p2 tb l) n now 0 (seqX x S.arr) (pfx p0 p1 p2) (hx.seq _) rfl q ⟨by omega, by omega⟩ ?_ ?_).mono ?_
    · intro w1 q1
      have htb := q1.tk tb (F.c 19 * 1048576, now) (if_pos rfl)
      refine (box_take A.xb A.xt A.xr (F.c 7).toNat _ _ 1 1 (F.c 17) (F.c 18) (F.c 19) now (addC now (F.c 17)) tb (F.c 18) (F.c 19 * 1048576) (F.c 19 * 1048576) now n p0 p1 p2 w1 q1.bx (sweeps_stay (one_gets hrm.1 hrm.2 hb _ _) (tkn_one hrm.1 _ _ _ _ _) hnow.1 hterm) (one_gets hrm.1 hrm.2 hb _ _) htb.1 hnow.1 ⟨hnow.1, by omega⟩ ⟨by omega, by omega⟩ ⟨by omega, by omega⟩).mono ?_
      rintro e w2 ⟨rfl, h1, h2, h3⟩
      rw [hlev, htake]
      rw [hlev, htake, if_pos rfl, ite_self] at h2
      have r := q1.take (v := (F.c 19 * 1048576 - n * 1048576, now)) (u := (F.c 19 * 1048576, now)) (if_pos rfl) h3 h1 h2
      exact ⟨rfl, r.1, r.2⟩
    · intro w1 q1
      have hj := join_yes (penC F) n (seqX x S.arr) l y S.b0 S.b1 (hx.seq S.arr).l q1 hok hl htl hn hyes hroom hy hlt (fun w2 S2 q2 e0 e1 => by
        have hc := count_pen (seqX x S.arr) (hx.seq S.arr).l.pk q2 true
        rw [hpc] at hc
        refine hc.mono ?_
        rintro e w3 ⟨rfl, hB⟩
        refine ⟨rfl, ?_, Tur.of_below hB⟩
        have := q2.below hB
        rw [← e0, ← e1]
        exact this)
      rw [hpc]
      exact hj
    · rintro e w1 ⟨rfl, h1, h2⟩
      exact ⟨rfl, h1, h2⟩
  · rintro e w' ⟨tb, lim, rfl, h1, h2, h3⟩
    exact ⟨tb, lim, rfl, h1, h2, h3⟩
end
end Go.Proofs.YtpanmfdbdgecaaaGreat.C

namespace Go.Proofs.YtpanmfdbdgecaaaGreat.C
open Go.RowKit
set_option linter.unusedVariables false
theorem index_one (b n c : Nat) (w : World) (hc : w.cell? ⟨b, 0, none⟩ = some (.int .i64 (c : Nat))) :
    Calls Tryz.prog 157 #[.slice (some ⟨b, 0, none⟩) 1 n, .int .i64 (c : Nat)] w fun e w' => e = .returned (.int .i64 0) ∧ w' = w := by
  go_enter Tryz.func157, Tryz.ntmps157
  go_wp2_with fail
  go_loopw [8] (fun t wr => t = .int .i64 0 ∧ wr = w) (fun _ _ => 0)
  case atStart => exact ⟨rfl, rfl⟩
  case round =>
    obtain ⟨rfl, rfl⟩ := hrel
    go_wp2
    go_ret
    exact ⟨rfl, rfl⟩
set_option maxRecDepth 100000 in
theorem delete_one (b n : Nat) (C : Array Value) (w : World) (hC : w.heap[b]? = some (.cells C 3 (0, 0))) (hs : C.size = n) (hn : 1 ≤ n) (hn2 : n ≤ 129) :
    Calls Tryz.prog 158 #[.slice (some ⟨b, 0, none⟩) 1 n, .int .i64 0, .int .i64 1] w fun e w' => e = .returned (.slice (some ⟨b, 0, none⟩) 0 n) ∧ (∃ C' : Array Value, w'.heap[b]? = some (.cells C' 3 (0, 0)) ∧ C'.size = n) ∧ Two b b w w' := by
  obtain ⟨i0, hi0, hz0, hz1, hz2⟩ := info_parts int_info
  obtain ⟨A, hA⟩ : ∃ A : Addr, (if n = 1 then some (⟨b, 0, none⟩ : Addr) else some ⟨b, 1, none⟩) = some A := by
    by_cases h : n = 1
    · exact ⟨_, if_pos h⟩
    · exact ⟨_, if_neg h⟩
  have hcell : (w.cell? ⟨b, 0, none⟩).isSome = true := by
    rw [cell_of_row _ _ _ _ _ _ hC]
    simp [show 0 < C.size by omega]
  have hcl : ∀ ty, (Builtin.clear_ #[117] ty #[.slice (some ⟨b, 0, none⟩) 1 n]).run Tryz.prog w.drew = .ok (.tuple #[]) (w.drew.setCells b 0 (List.replicate 1 (.int .i64 0))) := fun ty =>
    Lib.run_clear_slice w.drew 117 3 ty (.int .i64 0) Tryz.underlying117 (fun w' => by
      have hu := Tryz.underlying3
      simp [zeroValue, typeInfo, hi0, hz0, go_sem]) rfl rfl b 0 1 n (by omega) (fun j hj => by
      obtain rfl : j = 0 := by omega
      exact hcell) (fun j hj => frozen_of_row _ _ _ _ _ hC)
  have hX : (w.drew.setCells b 0 [.int .i64 0]).heap[b]? = some (.cells (C.setIfInBounds 0 (.int .i64 0)) 3 (0, 0)) := heap_setCell_same w.drew _ 0 _ _ (.int .i64 0) hC
  have hT : Two b b w (w.drew.setCells b 0 [.int .i64 0]) := Two.setCells (g := b) (h := b) (.inl rfl) [.int .i64 0] 0 ((Two.refl b b w).drewN 1)
  have HX := Lib.hid hX
  have HT := Lib.hid hT
  have HS := Lib.hid hs
  clear hX hT hC hs hcell
  go_enter Tryz.func158, Tryz.ntmps158
  go_wp2_with fail
  go_region_law (refine step_append_room rfl (.tmp 22) (.tmp 25) 117 rfl 3 i0 1 Tryz.underlying117 hi0 hz1 b 0 0 n (by simp [Act.eval, Act.put]) A 0 (n - 1) [] (by simp [Act.eval, Act.put]) rfl (by simp) (by simp) (by omega) (by simp) ?_)
  rw [show w.drew.setCells b (0 + 0 * 1) [] = w.drew from rfl]
  have HCL := Lib.hid hcl
  clear hcl
  generalize w.drew = w1 at *
  go_wp2_with ((with_reducible refine arm_clear 31 117 _ _ _ (HCL.out _) ?_ ?_); rfl)
  go_ret
  exact ⟨rfl, ⟨_, HX.out, by simp [HS.out]⟩, HT.out⟩
section
variable {w : World} {pb b1 b2 c : Nat} {q : Int} {l : List Tcl}
theorem build_cls (w : World) : (Instr.build 307 #[]).run Tryz.prog w = .ok (.agg (tclC ⟨false, false, 0⟩).toArray) w := run_build w 307 _ _ (by kernel_rfl)
theorem TnAt.empty {c : Nat} (h : TnAt w pb b1 b2 q l [c]) {C' : Array Value} {w' : World} (hC : w'.heap[b2]? = some (.cells C' 3 (0, 0))) (hs : C'.size = l.length) (p : Two b2 b2 w w') : TnAt (w'.setCell ⟨pb, 2, none⟩ (.slice (some ⟨b2, 0, none⟩) 0 l.length)) pb b1 b2 q l [] ∧ Amg [pb, b1, b2] w (w'.setCell ⟨pb, 2, none⟩ (.slice (some ⟨b2, 0, none⟩) 0 l.length)) := by
  obtain ⟨n1, n2, n3⟩ := h.ne
  have kp := (p.block pb (Array.getElem?_eq_some_iff.1 h.ptr).1 n2 n2).trans h.ptr
  have kr := (p.block b1 (Array.getElem?_eq_some_iff.1 h.row).1 n3 n3).trans h.row
  refine ⟨⟨?_, (heap_setCell_other _ _ _ _ (fun e => n1 e.symm)).trans kr, ⟨C', (heap_setCell_other _ _ _ _ (fun e => n2 e.symm)).trans hC, hs, fun j x hj => by simp at hj⟩, by simp⟩, ?_⟩
  · have := heap_setCell_same _ _ 2 _ _ (.slice (some ⟨b2, 0, none⟩) 0 l.length) kp
    simpa using this
  · exact (Amg.of_two p (by simp) (by simp)).trans (Amg.of_two (Two.setCell (g := pb) (h := pb) (x := ⟨pb, 2, none⟩) (Two.refl _ _ w') (.inl rfl) _) (by simp) (by simp))
set_option maxRecDepth 100000 in
theorem sleep_one (c : Nat) (x : Tcl) (h : TnAt w pb b1 b2 q l [c]) (hl : l.length ≤ 129) (hx : l[c]? = some x) (ha : x.awake = true) :
    Calls Tryz.prog 103 #[.pointer (some ⟨pb, 0, none⟩), .int .i64 (c : Nat)] w fun e w' => e = .returned (.bool true) ∧ TnAt w' pb b1 b2 q (l.set c ⟨false, false, 0⟩) [] ∧ Amg [pb, b1, b2] w w' := by
  have hc := lt_of_some hx
  have CH := Lib.hid (turns_has (c : Nat) h hl)
  rw [decide_eq_true (show 0 ≤ (c : Int) ∧ (c : Int) < l.length by omega)] at CH
  obtain ⟨c0, c1, c2, f2⟩ := h.c0
  obtain ⟨d0, d1, d2, ff⟩ := h.cls hx
  rw [ha] at d0
  have ff0 := ff (c * 3)
  have ff1 := ff (c * 3 + 1)
  have ff2 := ff (c * 3 + 2)
  clear ff
  have HH := Lib.hid h
  have HX := Lib.hid hx
  have HL := Lib.hid hl
  clear h hx
  obtain ⟨n, hn⟩ : ∃ n, n = l.length := ⟨_, rfl⟩
  rw [← hn] at c1 c2 hc
  have HN := Lib.hid hn
  clear hn hl
  have hcn : (c : Int) < (n : Int) := by omega
  go_enter Tryz.func103, Tryz.ntmps103
  go_wp2_with fail
  refine CH.out.mono ?_
  rintro e w1 ⟨rfl, rfl⟩
  go_upto_region 4 with (fail)
  have h3 := HH.out.setCls HX.out ⟨false, false, 0⟩
  have a3 : Amg [pb, b1, b2] w1 (w1.setCells b1 (c * 3) (tclC ⟨false, false, 0⟩)) := Amg.of_two (Two.setCells (g := b1) (h := b1) (.inl rfl) _ _ (Two.refl b1 b1 w1)) (by simp) (by simp)
  have e3 : ((w1.setCell ⟨b1, c * 3, none⟩ (.bool false)).setCell ⟨b1, c * 3 + 1, none⟩ (.bool false)).setCell ⟨b1, c * 3 + 2, none⟩ (.int .i64 0) = w1.setCells b1 (c * 3) (tclC ⟨false, false, 0⟩) := rfl
  rw [e3]
  have HA := Lib.hid a3
  clear a3 e3 c0 c1 c2 f2 d0 d1 d2 ff0 ff1 ff2 CH
  generalize w1.setCells b1 (c * 3) (tclC ⟨false, false, 0⟩) = w3 at *
  have hl2 : (l.set c ⟨false, false, 0⟩).length = n := by rw [List.length_set, HN.out]
  generalize hq2 : l.set c ⟨false, false, 0⟩ = l2 at h3 hl2
  have HL2 := Lib.hid hq2
  clear hq2
  have hn129 : n ≤ 129 := HN.out ▸ HL.out
  clear HH HX HN HL
  subst hl2
  obtain ⟨_, _, c2, f2⟩ := h3.c0
  obtain ⟨C, hC, hCs, hCl⟩ := h3.lin
  have hc0 : w3.cell? ⟨b2, 0, none⟩ = some (.int .i64 (c : Nat)) := cells_of_row hC 0 _ (hCl 0 c rfl)
  have CI := Lib.hid (index_one b2 l2.length c w3 hc0)
  have CD := Lib.hid (delete_one b2 l2.length C w3 hC hCs (by omega) hn129)
  have H3 := Lib.hid h3
  clear h3 hc0 hC hCs hCl hc hcn hn129
  have H2 := Lib.hid f2
  simp only [List.length_singleton] at c2
  go_wp2_with fail
  refine CI.out.mono ?_
  rintro e w4 ⟨rfl, rfl⟩
  go_wp2_with fail
  refine CD.out.mono ?_
  rintro e w5 ⟨rfl, ⟨C', hC', hs'⟩, hT⟩
  obtain ⟨r1, r2⟩ := H3.out.empty hC' hs' hT
  obtain ⟨n1, n2, n3⟩ := H3.out.ne
  have k5 := (hT.block pb (Array.getElem?_eq_some_iff.1 H3.out.ptr).1 n2 n2).trans H3.out.ptr
  have c5 := cells_of_row k5 2 _ rfl
  have f5 := frozen_of_row _ _ 2 _ _ k5
  have R1 := Lib.hid r1
  have R2 := Lib.hid r2
  clear r1 r2 hC' hs' hT k5 c2 f2 n1 n2 n3 CI CD
  go_wp2
  go_ret
  rw [HL2.out]
  exact ⟨rfl, R1.out, HA.out.trans R2.out⟩
theorem TnAt.setField {line : List Nat} (h : TnAt w pb b1 b2 q l line) {c : Nat} {x : Tcl} (hx : l[c]? = some x) (j : Nat) (v : Value) (y : Tcl) (hj : j < 3) (hy : (tclC x).set j v = tclC y) : TnAt (w.setCell ⟨b1, c * 3 + j, none⟩ v) pb b1 b2 q (l.set c y) line := by
  obtain ⟨C, h2, h3, h4⟩ := h.lin
  obtain ⟨n1, n2, n3⟩ := h.ne
  have hc := lt_of_some hx
  refine ⟨?_, ?_, ⟨C, (heap_setCell_other _ _ _ _ (fun e => n3 e.symm)).trans h2, by rw [List.length_set]; exact h3, h4⟩, by rw [List.length_set]; exact h.len⟩
  · rw [heap_setCell_other _ _ _ _ n1, List.length_set]
    exact h.ptr
  · rw [heap_setCell_same _ _ _ _ _ v h.row]
    congr 2
    have hlen : (l.map tclC).flatten.length = l.length * 3 := by rw [flat_length 3 _ tcl_len, List.length_map]
    have hlen2 : ((l.set c y).map tclC).flatten.length = l.length * 3 := by rw [flat_length 3 _ tcl_len, List.length_map, List.length_set]
    rw [List.setIfInBounds_toArray]
    congr 1
    apply List.ext_getElem?
    intro k
    by_cases hk : k < l.length * 3
    · obtain ⟨i, r, hr, hkr, hi⟩ : ∃ i r, r < 3 ∧ k = i * 3 + r ∧ i < l.length := ⟨k / 3, k % 3, Nat.mod_lt _ (by omega), by omega, by omega⟩
      subst hkr
      by_cases hic : i = c
      · subst hic
        have e1 : ((l.set i y).map tclC)[i]? = some (tclC y) := by rw [List.getElem?_map, List.getElem?_set_self hi]; rfl
        rw [flat_at _ tcl_len i r (tclC y) e1 hr, ← hy]
        by_cases hrj : r = j
        · subst hrj
          have h33 : (tclC x).length = 3 := rfl
          rw [List.getElem?_set_self (by omega), List.getElem?_set_self (by omega)]
        · have e2 : (l.map tclC)[i]? = some (tclC x) := by rw [List.getElem?_map, hx]; rfl
          rw [List.getElem?_set_ne (by omega), flat_at _ tcl_len i r (tclC x) e2 hr, List.getElem?_set_ne (fun e => hrj e.symm)]
      · have e1 : ((l.set c y).map tclC)[i]? = some (tclC l[i]) := by rw [List.getElem?_map, List.getElem?_set_ne (fun e => hic e.symm), List.getElem?_eq_getElem hi]; rfl
        have e2 : (l.map tclC)[i]? = some (tclC l[i]) := by rw [List.getElem?_map, List.getElem?_eq_getElem hi]; rfl
        rw [List.getElem?_set_ne (by omega), flat_at _ tcl_len i r _ e1 hr, flat_at _ tcl_len i r _ e2 hr]
    · rw [List.getElem?_eq_none (by rw [List.length_set, hlen]; omega), List.getElem?_eq_none (by rw [hlen2]; omega)]
theorem TnAt.setFront (h : TnAt w pb b1 b2 q l [c]) : TnAt (w.setCell ⟨b2, 0, none⟩ (.int .i64 (c : Nat))) pb b1 b2 q l [c] := by
  obtain ⟨C, h2, h3, h4⟩ := h.lin
  obtain ⟨n1, n2, n3⟩ := h.ne
  refine ⟨(heap_setCell_other _ _ _ _ n2).trans h.ptr, (heap_setCell_other _ _ _ _ n3).trans h.row, ⟨_, heap_setCell_same _ _ _ _ _ _ h2, by rw [Array.size_setIfInBounds]; exact h3, fun j x hj => ?_⟩, h.len⟩
  rcases Nat.eq_zero_or_pos j with rfl | hj0
  · have : c = x := by simpa using hj
    subst this
    rw [Array.getElem?_setIfInBounds_self_of_lt (by have := h.len; simp at this; omega)]
  · rw [List.getElem?_eq_none (by simp; omega)] at hj
    cases hj
set_option maxRecDepth 100000 in
theorem last_one (c : Nat) (x : Tcl) (h : TnAt w pb b1 b2 q l [c]) (hl : l.length ≤ 129) (hx : l[c]? = some x) :
    Calls Tryz.prog 145 #[.pointer (some ⟨pb, 0, none⟩)] w fun e w' => e = .returned (.tuple #[]) ∧ TnAt w' pb b1 b2 q (l.set c ⟨x.awake, true, x.deficit⟩) [c] ∧ Amg [pb, b1, b2] w w' := by
  have hc := lt_of_some hx
  obtain ⟨c0, c1, c2, f2⟩ := h.c0
  obtain ⟨d0, d1, d2, ff⟩ := h.cls hx
  have ff1 := ff (c * 3 + 1)
  clear ff
  obtain ⟨C, hC, hCs, hCl⟩ := h.lin
  have hc0 : w.cell? ⟨b2, 0, none⟩ = some (.int .i64 (c : Nat)) := cells_of_row hC 0 _ (hCl 0 c rfl)
  have HH := Lib.hid h
  have HX := Lib.hid hx
  have HL := Lib.hid hl
  clear h hx
  obtain ⟨n, hn⟩ : ∃ n, n = l.length := ⟨_, rfl⟩
  rw [← hn] at c1 c2 hc hCs
  have HN := Lib.hid hn
  clear hn hl
  have hcn : (c : Int) < (n : Int) := by omega
  simp only [List.length_singleton] at c2
  go_enter Tryz.func145, Tryz.ntmps145
  go_wp2_with fail
  obtain ⟨A, hA⟩ : ∃ A : Option Addr, (if n = 1 then some (⟨b2, 0, none⟩ : Addr) else some ⟨b2, 1, none⟩) = A := ⟨_, rfl⟩
  have hinf : (Tryz.prog.info? 3).map (·.size) = some 1 := by kernel_rfl
  have hcp : (Builtin.copy_ #[117, 117] 3 #[.slice (some ⟨b2, 0, none⟩) 1 n, .slice A 0 (n - 1)]).run Tryz.prog w.drew = .ok (.int .i64 0) w.drew := run_copy_none w.drew 117 117 3 3 (some ⟨b2, 0, none⟩) A 1 n 0 (n - 1) Tryz.underlying117 hinf rfl
  have f0 : w.frozen? ⟨b2, 0, none⟩ = false := frozen_of_row _ _ _ _ _ hC
  have K0 := Lib.hid hC
  clear hC hCl
  go_region
  go_wp2_with fail
  go_region
  go_wp2_with fail
  go_end0
  have r := (HH.out.setFront).setField HX.out 1 (.bool true) ⟨x.awake, true, x.deficit⟩ (by decide) rfl
  refine ⟨rfl, (r.below (Below.refl _ _).drew).below (Below.refl _ _).drew, ?_⟩
  exact ((Amg.of_two (Two.setCell (g := b1) (h := b2) (x := ⟨b1, c * 3 + 1, none⟩) (Two.setCell (g := b1) (h := b2) (x := ⟨b2, 0, none⟩) (Two.refl b1 b2 w) (.inr rfl) (.int .i64 (c : Nat))) (.inl rfl) (.bool true)) (by simp) (by simp)).drewN 2)
end
end Go.Proofs.YtpanmfdbdgecaaaGreat.C

namespace Go.Proofs.YtpanmfdbdgecaaaGreat.C
open Go.RowKit
set_option linter.unusedVariables false
section
variable {w : World} {pb b1 b2 c : Nat} {q : Int} {l : List Tcl}
theorem pick_none (sb : Nat) (h : TnAt w pb b1 b2 q l []) :
    Calls Tryz.prog 88 #[.pointer (some ⟨pb, 0, none⟩), .iface 134 (.pointer (some ⟨sb, 0, none⟩))] w fun e w' => e = .returned (.tuple #[.int .i64 0, .bool false]) ∧ w' = w := by
  obtain ⟨c0, c1, c2, f2⟩ := h.c0
  simp only [List.length_nil] at c2
  clear h
  go_enter Tryz.func88, Tryz.ntmps88
  go_wp2_with fail
  go_loopw [6] (fun _ wr => wr = w) (fun _ _ => 0)
  case atStart => exact rfl
  case round =>
    subst hrel
    go_wp2
    go_ret2
    exact ⟨rfl, rfl⟩
/-- A class that may be picked. -/
structure PickOk (q : Int) (y : Tcl) : Prop where
  awake : y.awake = true
  lo : 0 ≤ y.deficit
  hi : y.deficit ≤ 9216 + q
  fresh : y.fresh = true → y.deficit ≤ 9216
set_option maxRecDepth 100000 in
set_option maxHeartbeats 2000000 in
theorem pick_one (sb : Nat) (n : Int) (x : Tcl) (h : TnAt w pb b1 b2 q l [c]) (hl : l.length ≤ 129) (hx : l[c]? = some x) (hok : PickOk q x) (hq : 9216 ≤ q ∧ q ≤ 1073741824) (hn : 1 ≤ n ∧ n ≤ 9216)
    (hhd : ∀ w', Amg [pb, b1, b2] w w' → Calls Tryz.prog 242 #[.pointer (some ⟨sb, 0, none⟩), .int .i64 (c : Nat)] w' fun e w'' => e = .returned (.int .i64 n) ∧ Below w'.heap.size w' w'') :
    Calls Tryz.prog 88 #[.pointer (some ⟨pb, 0, none⟩), .iface 134 (.pointer (some ⟨sb, 0, none⟩))] w fun e w' => e = .returned (.tuple #[.int .i64 (c : Nat), .bool true]) ∧ (∃ y, PickOk q y ∧ TnAt w' pb b1 b2 q (l.set c y) [c]) ∧ Amg [pb, b1, b2] w w' := by
  have hc := lt_of_some hx
  have CH := Lib.hid hhd
  obtain ⟨c0, c1, c2, f2⟩ := h.c0
  have HH := Lib.hid h
  have HX := Lib.hid hx
  have HOK := Lib.hid hok
  have HQ := Lib.hid hq
  have HL := Lib.hid hl
  have HNN := Lib.hid hn
  have hls : l.set c x = l := by rw [← (List.getElem?_eq_some_iff.1 hx).2]; exact List.set_getElem_self _
  have HLS := Lib.hid hls
  have HC := Lib.hid hc
  obtain ⟨hn1, hn2⟩ := hn
  obtain ⟨m, hm⟩ : ∃ m, m = l.length := ⟨_, rfl⟩
  have HM := Lib.hid hm
  have HM1 := Lib.hid (show (c : Int) < (m : Int) by omega)
  clear hm
  clear h hx hhd hok hq hl hls hc
  go_enter Tryz.func88, Tryz.ntmps88
  go_wp2_with fail
  clear c0 c1 c2 f2
  go_loopg [6, 7, 8] 1 (fun k _ _ _ wr => ∃ y, TnAt wr pb b1 b2 q (l.set c y) [c] ∧ PickOk q y ∧ (k = 0 → y.fresh = true) ∧ k ≤ 1 ∧ Amg [pb, b1, b2] w wr)
  case atStart => exact ⟨x, by rw [HLS.out]; exact HH.out, HOK.out, by omega, by omega, Amg.refl _ _⟩
  case round =>
    obtain ⟨y, hT, hok, hk0, hk1, hA⟩ := hrel
    have hy : (l.set c y)[c]? = some y := List.getElem?_set_self HC.out
    have hlen : (l.set c y).length = l.length := List.length_set
    obtain ⟨C, hC, hCs, hCl⟩ := hT.lin
    have e0 : wr.cell? ⟨b2, 0, none⟩ = some (.int .i64 (c : Nat)) := cells_of_row hC 0 _ (hCl 0 c rfl)
    obtain ⟨c0, c1, c2, f2⟩ := hT.c0
    simp only [List.length_singleton] at c2
    rw [hlen, ← HM.out] at c1 c2
    have C1 := Lib.hid (CH.out wr hA)
    have HT := Lib.hid hT
    have HA := Lib.hid hA
    have HY := Lib.hid hy
    have HK := Lib.hid hok
    have HK0 := Lib.hid hk0
    have hcm := HM1.out
    clear hC hCs hCl hT hA hy hok hk0 hlen
    go_wp2_with fail
    refine C1.out.mono ?_
    rintro e w1 ⟨rfl, hB1⟩
    have hT1 := HT.out.below hB1
    have HA1 := Lib.hid (HA.out.trans (Amg.of_below hB1))
    obtain ⟨d0, d1, d2, ff⟩ := hT1.cls HY.out
    have g1 := ff (c * 3 + 1)
    have g2 := ff (c * 3 + 2)
    obtain ⟨e0', e1', _, _⟩ := hT1.c0
    rw [List.length_set, ← HM.out] at e1'
    have HT1 := Lib.hid hT1
    have hmin : (if (9216 : Int) < n then (9216 : Int) else n) = n := if_neg (by omega)
    clear hT1 ff hB1 c0 c1 c2 f2 e0 C1 HT HA
    obtain ⟨ya, yf, yd⟩ := y
    have hya : ya = true := HK.out.awake
    subst hya
    have hd0 : 0 ≤ yd := HK.out.lo
    have hd1 : yd ≤ 9216 + q := HK.out.hi
    have hq := HQ.out
    have ss : ∀ (u v : Tcl), ((l.set c u).set c v) = l.set c v := fun u v => List.set_set ..
    have HSS := Lib.hid ss
    have hfix : ∀ (u : Tcl), (l.set c u)[c]? = some u := fun u => List.getElem?_set_self HC.out
    have HFX := Lib.hid hfix
    clear ss hfix
    cases yf
    · by_cases hnd : n ≤ yd
      · have hw : IntKind.i64.wrap (yd - n) = yd - n := IntWalk.i64_in _ (by omega)
        have r1 := HT1.out.setField HY.out 2 (.int .i64 (yd - n)) ⟨true, false, yd - n⟩ (by decide) rfl
        rw [HSS.out] at r1
        have R1 := Lib.hid r1
        have RA := Lib.hid (HA1.out.trans (Amg.of_two (Two.setCell (g := b1) (h := b1) (x := ⟨b1, c * 3 + 2, none⟩) (Two.refl b1 b1 w1) (.inl rfl) (.int .i64 (yd - n))) (by simp) (by simp)))
        have RK := Lib.hid (show PickOk q ⟨true, false, yd - n⟩ from ⟨rfl, by show (0 : Int) ≤ yd - n; omega, by show yd - n ≤ 9216 + q; omega, fun h => by cases h⟩)
        clear r1 hq hd0 hd1
        go_wp2
        go_ret2
        exact ⟨rfl, ⟨_, RK.out, R1.out⟩, RA.out⟩
      · have hndI : yd < n := by omega
        have CL := Lib.hid (last_one c ⟨true, false, yd⟩ HT1.out (by rw [List.length_set]; exact HL.out) HY.out)
        have HD := Lib.hid (And.intro hd0 hndI)
        have HQ1 := Lib.hid hq
        clear hq hd0 hd1
        go_wp2_with fail
        refine CL.out.mono ?_
        rintro e w2 ⟨rfl, hT2, hA2⟩
        rw [HSS.out] at hT2
        have HT2 := Lib.hid hT2
        have HA2 := Lib.hid (HA1.out.trans hA2)
        clear hT2 hA2 CL d0 d1 d2 g1 g2 e0' e1'
        go_wp2_with fail
        go_roundg 0
        case rel => exact ⟨⟨true, true, yd⟩, HT2.out, ⟨rfl, HD.out.1, by have := HD.out; have := HQ1.out; show yd ≤ 9216 + q; omega, fun _ => by have := HD.out; show yd ≤ 9216; omega⟩, fun _ => rfl, by omega, HA2.out⟩
        have := HK0.out
        rcases Nat.eq_zero_or_pos gk with h | h
        · exact absurd (this h) (by simp)
        · exact h
    · have hd2 : yd ≤ 9216 := HK.out.fresh rfl
      have hw0 : IntKind.i64.wrap (yd + q) = yd + q := IntWalk.i64_in _ (by omega)
      have hw : IntKind.i64.wrap (yd + q - n) = yd + q - n := IntWalk.i64_in _ (by omega)
      have hle : n ≤ yd + q := by omega
      have r1 := HT1.out.setField HY.out 2 (.int .i64 (yd + q)) ⟨true, true, yd + q⟩ (by decide) rfl
      rw [HSS.out] at r1
      have r2 := r1.setField (HFX.out _) 1 (.bool false) ⟨true, false, yd + q⟩ (by decide) rfl
      rw [HSS.out] at r2
      have r3 := r2.setField (HFX.out _) 2 (.int .i64 (yd + q - n)) ⟨true, false, yd + q - n⟩ (by decide) rfl
      rw [HSS.out] at r3
      have R3 := Lib.hid r3
      have RA := Lib.hid (HA1.out.trans (Amg.of_two (Two.setCell (g := b1) (h := b1) (x := ⟨b1, c * 3 + 2, none⟩) (Two.setCell (g := b1) (h := b1) (x := ⟨b1, c * 3 + 1, none⟩) (Two.setCell (g := b1) (h := b1) (x := ⟨b1, c * 3 + 2, none⟩) (Two.refl b1 b1 w1) (.inl rfl) (.int .i64 (yd + q))) (.inl rfl) (.bool false)) (.inl rfl) (.int .i64 (yd + q - n))) (by simp) (by simp)))
      have RK := Lib.hid (show PickOk q ⟨true, false, yd + q - n⟩ from ⟨rfl, by show (0 : Int) ≤ yd + q - n; omega, by show yd + q - n ≤ 9216 + q; omega, fun h => by cases h⟩)
      clear r1 r2 r3 hq hd0 hd1 hd2
      go_wp2_with fail
      go_region
      go_wp2_with fail
      go_ret2
      exact ⟨rfl, ⟨_, RK.out, R3.out.below (Below.refl _ _).drew⟩, RA.out.drewN 1⟩
end
end Go.Proofs.YtpanmfdbdgecaaaGreat.C
