/- The box: who is over goes. · The box: In, All. · Numbers: Mul; tokens: at, Take. · The box: Put. · The box: Take. · The engine: what it counts, Clock, Boxed, ahead. · The engine: Frame. · The engine: Frame of a frame that arrives. (Printed by frametail.py.) · The engine: Frame of a frame that arrives, whatever becomes of it. (Printed by anyout.py.) · Plain: the box with nobody, and with one, in it; the window with one slot. · The police: who is the first in the box, and is let send. -/
import Derived.Test.YtpanmfdbdgecaaaGreatV11
namespace Go.Proofs.YtpanmfdbdgecaaaGreat.C
open Go.RowKit
set_option linter.unusedVariables false
/-- What a prefix has in the table. -/
structure Gets (l : List Plc) (p0 p1 p2 : Nat) (til : Int) (tk : Option Addr) (ok : Bool) : Prop where
  fl : ∀ x ∈ l, Flat Tryz.prog 65 x.p
  b0 : p0 < 256 ∧ p1 < 256 ∧ p2 < 256
  len : 1 ≤ l.length ∧ l.length ≤ 65536
  is : (ok = false ∧ (at1 l p0 p1 p2).1 = -1 ∧ til = 0 ∧ tk = none) ∨ (ok = true ∧ ∃ (i : Nat) (x : Plc), (at1 l p0 p1 p2).1 = (i : Int) ∧ l[i]? = some x ∧ til = x.til ∧ tokV x.tok = .pointer tk)
theorem table_get {pb b room : Nat} {l : List Plc} {nn : Int} {p0 p1 p2 : Nat} {til : Int} {tk : Option Addr} {ok : Bool} (hg : Gets l p0 p1 p2 til tk ok) (w : World) (h : TbAt w pb b l room nn) :
    Calls Tryz.prog 69 #[.pointer (some ⟨pb, 0, none⟩), .agg (pfx p0 p1 p2)] w fun e w' => e = .returned (.tuple #[.agg #[.int .i64 til, .pointer tk], .bool ok]) ∧ Below w.heap.size w w' := by
  rcases hg.is with ⟨rfl, h1, rfl, rfl⟩ | ⟨rfl, i, x, h1, h2, rfl, h4⟩
  · exact table_get_no pb b room l nn p0 p1 p2 w h hg.fl hg.b0.1 hg.b0.2.1 hg.b0.2.2 hg.len.1 hg.len.2 h1
  · have := table_get_yes pb b room l nn p0 p1 p2 i x w h hg.fl hg.b0.1 hg.b0.2.1 hg.b0.2.2 hg.len.1 hg.len.2 h1 h2
    rw [h4] at this
    exact this
theorem BxAt.cells {w : World} {xb pb b room : Nat} {l : List Plc} {n term rate burst : Int} (h : BxAt w xb pb b l room n term rate burst) : w.cell? ⟨xb, 0, none⟩ = some (.pointer (some ⟨pb, 0, none⟩)) ∧ w.cell? ⟨xb, 1, none⟩ = some (.int .i64 term) ∧ w.cell? ⟨xb, 2, none⟩ = some (.int .i64 rate) ∧ w.cell? ⟨xb, 3, none⟩ = some (.int .i64 burst) := by
  rw [cell_of_row _ _ _ _ _ _ h.ptr, cell_of_row _ _ _ _ _ _ h.ptr, cell_of_row _ _ _ _ _ _ h.ptr, cell_of_row _ _ _ _ _ _ h.ptr]
  exact ⟨rfl, rfl, rfl, rfl⟩
theorem BxAt.ne {w : World} {xb pb b room : Nat} {l : List Plc} {n term rate burst : Int} (h : BxAt w xb pb b l room n term rate burst) : xb ≠ pb ∧ xb ≠ b := ⟨ne_ty h.ptr h.tb.ptr (by decide), ne_ty h.ptr h.tb.row (by decide)⟩
set_option maxRecDepth 100000 in
/-- Nobody is in it. -/
theorem sweep_none (xb pb b room : Nat) (l : List Plc) (nn term rate burst now : Int) (w : World) (h : BxAt w xb pb b l room nn term rate burst) (hl1 : l.length ≤ 65536) (hno : tkn l = []) :
    Calls Tryz.prog 68 #[.pointer (some ⟨xb, 0, none⟩), .int .i64 now] w fun e w' => e = .returned (.bool true) ∧ BxAt w' xb pb b l room nn term rate burst ∧ Below w.heap.size w w' := by
  have CA := Lib.hid (table_all pb b room l nn w h.tb hl1 (by rw [hno]; simp))
  rw [hno] at CA
  have k0 := h.cells.1
  have HH := Lib.hid h
  clear h
  go_enter Tryz.func68, Tryz.ntmps68
  go_wp2_with fail
  refine CA.out.mono ?_
  rintro e w1 ⟨u, rfl, ho, hb⟩
  obtain ⟨A, c, rfl⟩ := OW.slice ho
  have HB := Lib.hid hb
  clear ho hb CA
  go_wp2_with fail
  go_loopw [17] (fun t wr => t = .int .i64 0 ∧ w1 = wr) (fun _ _ => 0)
  case atStart => exact ⟨rfl, rfl⟩
  case round =>
    obtain ⟨rfl, rfl⟩ := hrel
    go_wp2
    go_ret
    exact ⟨rfl, HH.out.below HB.out, HB.out⟩
def EZ : Array Value := #[.int .i64 0, .pointer none]
theorem ez_zero : (Tryz.prog.info? 199).map (fun i => (i.zero, i.size)) = some (some (.agg EZ), 2) := by kernel_rfl
end Go.Proofs.YtpanmfdbdgecaaaGreat.C

namespace Go.Proofs.YtpanmfdbdgecaaaGreat.C
open Go.RowKit
set_option linter.unusedVariables false
/-- What a sweep at a moment leaves. -/
def Sweeps (xb pb b room : Nat) (l : List Plc) (nn term rate burst now : Int) (l' : List Plc) (nn' : Int) : Prop :=
  ∀ w, BxAt w xb pb b l room nn term rate burst → Calls Tryz.prog 68 #[.pointer (some ⟨xb, 0, none⟩), .int .i64 now] w fun e w' => e = .returned (.bool true) ∧ BxAt w' xb pb b l' room nn' term rate burst ∧ Two pb b w w'
section
variable {xb pb b room : Nat} {l : List Plc} {nn term rate burst now : Int}
theorem sweeps_none (hl1 : l.length ≤ 65536) (hno : tkn l = []) : Sweeps xb pb b room l nn term rate burst now l nn := fun w h => by
  refine (sweep_none xb pb b room l nn term rate burst now w h hl1 hno).mono ?_
  rintro e w' ⟨rfl, h1, h2⟩
  exact ⟨rfl, h1, two_ofB h2⟩
end
set_option maxRecDepth 100000 in
set_option maxHeartbeats 1000000 in
theorem box_in (xb pb b room : Nat) (l l' : List Plc) (nn nn' term rate burst now til : Int) (tk : Option Addr) (ok : Bool) (p0 p1 p2 : Nat) (w : World) (h : BxAt w xb pb b l room nn term rate burst) (hs : Sweeps xb pb b room l nn term rate burst now l' nn') (hg : Gets l' p0 p1 p2 til tk ok) :
    Calls Tryz.prog 38 #[.pointer (some ⟨xb, 0, none⟩), .agg (pfx p0 p1 p2), .int .i64 now] w fun e w' => e = .returned (.bool ok) ∧ BxAt w' xb pb b l' room nn' term rate burst ∧ Two pb b w w' := by
  have HS := Lib.hid hs
  have HH := Lib.hid h
  have hcg := fun (w' : World) (q : TbAt w' pb b l' room nn') => table_get hg w' q
  have HCG := Lib.hid hcg
  have hps : (Tryz.prog.info? 65).map (·.size) = some (pfx p0 p1 p2).size := pf_size
  have HPS := Lib.hid hps
  clear h hg hcg hs hps
  generalize pfx p0 p1 p2 = p at *
  go_enter Tryz.func38, Tryz.ntmps38
  go_upto_region 1 with ((with_reducible refine arm_box 4 1 65 p ?_ ?_); rfl; intro w1 HB HX HS1)
  have CS := Lib.hid (HS.out w1 (HH.out.below HB.out))
  go_wp2_with fail
  refine CS.out.mono ?_
  rintro e w2 ⟨rfl, hX2, hT2⟩
  have h1 := HH.out.below HB.out
  have n1 := ne_ty HX.out h1.tb.ptr (by decide)
  have n2 := ne_ty HX.out h1.tb.row (by decide)
  have P2 := Lib.hid ((hT2.block _ (Array.getElem?_eq_some_iff.1 HX.out).1 n1 n2).trans HX.out)
  have T2 := Lib.hid (two_ofB (x := pb) (y := b) HB.out |>.trans hT2)
  have HX2 := Lib.hid hX2
  clear hX2 hT2 h1 n1 n2 CS HX HS1 HB
  have HL : Hid (∀ w', Below w2.heap.size w2 w' → w'.cell? ⟨xb, 0, none⟩ = some (.pointer (some ⟨pb, 0, none⟩)) ∧ (Instr.loadAt 65 (.pointer (some ⟨w.heap.size, 0, none⟩))).run Tryz.prog w' = .ok (.agg p) w') := Lib.hid fun w' q => ⟨(HX2.out.below q).cells.1, box_load (t := 65) (keep_block q P2.out) _ Tryz.underlying65 rfl HPS.out⟩
  have CG : Hid (∀ w', Below w2.heap.size w2 w' → Calls Tryz.prog 69 #[.pointer (some ⟨pb, 0, none⟩), .agg p] w' fun e w'' => e = .returned (.tuple #[.agg #[.int .i64 til, .pointer tk], .bool ok]) ∧ Below w'.heap.size w' w'') := Lib.hid fun w' q => HCG.out w' (HX2.out.below q).tb
  go_wp2_with fail
  refine wp_region_held_drew (S := Below w2.heap.size w2) (by kernel_rfl) (Below.refl _ _).drew (fun hHeld => ?_)
  refine wpAnyH_take (i := 0) (oi := ⟨some 14, _, _, _, _, _⟩) (v := ?_) rfl (by kernel_rfl) (by kernel_rfl) (by kernel_rfl) (fun _ _ _ h => h) (Or.inl ⟨by rfl, ?_⟩) hHeld ?_
  rotate_left
  · intro w hSw
    go_simp
    try with_reducible rfl
  try simp only [Act.put, List.setIfInBounds_toArray, List.set_cons_zero, List.set_cons_succ]
  refine wpAnyH_take (i := 1) (oi := ⟨some 15, _, _, _, _, _⟩) (v := ?_) rfl (by kernel_rfl) (by kernel_rfl) (by kernel_rfl) (fun _ _ _ h => h) (Or.inl ⟨by rfl, ?_⟩) hHeld ?_
  rotate_left
  · intro w hSw
    go_simp
    try with_reducible rfl
  try simp only [Act.put, List.setIfInBounds_toArray, List.set_cons_zero, List.set_cons_succ]
  refine wpAnyH_take (i := 2) (oi := ⟨some 16, _, _, _, _, _⟩) (v := ?_) rfl (by kernel_rfl) (by kernel_rfl) (by kernel_rfl) (fun _ _ _ h => h) (Or.inl ⟨by rfl, ?_⟩) hHeld ?_
  rotate_left
  · intro w hSw
    go_simp
    try with_reducible rfl
  try simp only [Act.put, List.setIfInBounds_toArray, List.set_cons_zero, List.set_cons_succ]
  refine wpAnyH_take (i := 3) (oi := ⟨some 17, _, _, _, _, _⟩) (v := ?_) rfl (by kernel_rfl) (by kernel_rfl) (by kernel_rfl) (fun _ _ _ h => h) (Or.inl ⟨by rfl, ?_⟩) hHeld ?_
  rotate_left
  · intro w hSw
    obtain ⟨k0, _⟩ := HL.out w hSw
    go_simp
    try with_reducible rfl
  try simp only [Act.put, List.setIfInBounds_toArray, List.set_cons_zero, List.set_cons_succ]
  refine wpAnyH_take (i := 4) (oi := ⟨some 18, _, _, _, _, _⟩) (v := .agg p) rfl (by kernel_rfl) (by kernel_rfl) (by kernel_rfl) (fun _ _ _ h => h) (Or.inl ⟨by rfl, fun w hSw => exec_load rfl (HL.out w hSw).2⟩) hHeld ?_
  try simp only [Act.put, List.setIfInBounds_toArray, List.set_cons_zero, List.set_cons_succ]
  refine wpAnyH_ready (rs := [5, 9]) (by kernel_rfl) (by simp) ?_
  refine AllReadyH.cons rfl (fun K hK => ?_) (AllReadyH.cons rfl (fun K hK => ?_) AllReadyH.nil)
  · skip
    go_simp
    go_wp2_with (go_at_call 69; go_must (refine (CG.out _ hHeld).mono ?_; rintro e w5 ⟨rfl, hB⟩))
    refine hK.out _ _ (hHeld.trans (hB.mono hHeld.size)) (fun hHeld => ?_)
    clear hK K
    refine wpAnyH_take (i := 6) (oi := ⟨some 13, _, _, _, _, _⟩) (v := ?_) rfl (by kernel_rfl) (by kernel_rfl) (by kernel_rfl) (fun _ _ _ h => h) (Or.inl ⟨by rfl, ?_⟩) hHeld ?_
    rotate_left
    · intro w hSw
      go_simp
      try with_reducible rfl
    try simp only [Act.put, List.setIfInBounds_toArray, List.set_cons_zero, List.set_cons_succ]
    refine wpAnyH_take (i := 7) (oi := ⟨some 20, _, _, _, _, _⟩) (v := ?_) rfl (by kernel_rfl) (by kernel_rfl) (by kernel_rfl) (fun _ _ _ h => h) (Or.inl ⟨by rfl, ?_⟩) hHeld ?_
    rotate_left
    · intro w hSw
      go_simp
      try with_reducible rfl
    try simp only [Act.put, List.setIfInBounds_toArray, List.set_cons_zero, List.set_cons_succ]
    refine wpAnyH_take (i := 8) (oi := ⟨some 21, _, _, _, _, _⟩) (v := ?_) rfl (by kernel_rfl) (by kernel_rfl) (by kernel_rfl) (fun _ _ _ h => h) (Or.inl ⟨by rfl, ?_⟩) hHeld ?_
    rotate_left
    · intro w hSw
      go_simp
      try with_reducible rfl
    try simp only [Act.put, List.setIfInBounds_toArray, List.set_cons_zero, List.set_cons_succ]
    refine wpAnyH_ready (rs := [9]) (by kernel_rfl) (by simp) ?_
    refine AllReadyH.cons rfl (fun K hK => ?_) AllReadyH.nil
    have hS9 := hHeld.size; refine step_alloc 7 199 EZ 2 ez_zero ?_; intro W9 HB9 HX9 HS9
    refine hK.out _ _ (hHeld.trans (HB9.out.mono hHeld.size)) (fun hHeld => ?_)
    clear hK K
    refine wpAnyH_ready (rs := [10]) (by kernel_rfl) (by simp) ?_
    refine AllReadyH.cons rfl (fun K hK => ?_) AllReadyH.nil
    have HBX := Lib.hid (box_whole (cs := #[.int .i64 til, .pointer tk]) HX9.out rfl); refine step_store 7 20 199 _ _ _ (box_store (x := #[.int .i64 til, .pointer tk]) HX9.out ent_size (by kernel_rfl) rfl) rfl rfl ?_
    refine hK.out _ _ (below_setCells hS9 _ _ hHeld) (fun hHeld => ?_)
    clear hK K
    refine wpAnyH_take (i := 11) (oi := ⟨some 8, _, _, _, _, _⟩) (v := ?_) rfl (by kernel_rfl) (by kernel_rfl) (by kernel_rfl) (fun _ _ _ h => h) (Or.inl ⟨by rfl, ?_⟩) hHeld ?_
    rotate_left
    · intro w hSw
      go_simp
      try with_reducible rfl
    try simp only [Act.put, List.setIfInBounds_toArray, List.set_cons_zero, List.set_cons_succ]
    refine wpAnyH_done (by kernel_rfl) ?_ _
    have HE := Lib.hid hHeld
    clear hHeld
    try simp only [Act.put, List.setIfInBounds_toArray, List.set_cons_zero, List.set_cons_succ]
    generalize World.setCells _ _ 0 (#[.int .i64 til, .pointer tk] : Array Value).toList = wE at *
    go_wp2
    go_ret
    exact ⟨rfl, HX2.out.below HE.out, T2.out.trans (two_ofB HE.out)⟩
  · skip
    have hS9 := hHeld.size; refine step_alloc 7 199 EZ 2 ez_zero ?_; intro W9 HB9 HX9 HS9
    refine hK.out _ _ (hHeld.trans (HB9.out.mono hHeld.size)) (fun hHeld => ?_)
    clear hK K
    refine wpAnyH_ready (rs := [5]) (by kernel_rfl) (by simp) ?_
    refine AllReadyH.cons rfl (fun K hK => ?_) AllReadyH.nil
    go_simp
    go_wp2_with (go_at_call 69; go_must (refine (CG.out _ hHeld).mono ?_; rintro e w5 ⟨rfl, hB⟩))
    refine hK.out _ _ (hHeld.trans (hB.mono hHeld.size)) (fun hHeld => ?_)
    clear hK K
    have HX10 := Lib.hid (keep_block hB HX9.out)
    refine wpAnyH_take (i := 6) (oi := ⟨some 13, _, _, _, _, _⟩) (v := ?_) rfl (by kernel_rfl) (by kernel_rfl) (by kernel_rfl) (fun _ _ _ h => h) (Or.inl ⟨by rfl, ?_⟩) hHeld ?_
    rotate_left
    · intro w hSw
      go_simp
      try with_reducible rfl
    try simp only [Act.put, List.setIfInBounds_toArray, List.set_cons_zero, List.set_cons_succ]
    refine wpAnyH_take (i := 7) (oi := ⟨some 20, _, _, _, _, _⟩) (v := ?_) rfl (by kernel_rfl) (by kernel_rfl) (by kernel_rfl) (fun _ _ _ h => h) (Or.inl ⟨by rfl, ?_⟩) hHeld ?_
    rotate_left
    · intro w hSw
      go_simp
      try with_reducible rfl
    try simp only [Act.put, List.setIfInBounds_toArray, List.set_cons_zero, List.set_cons_succ]
    refine wpAnyH_take (i := 8) (oi := ⟨some 21, _, _, _, _, _⟩) (v := ?_) rfl (by kernel_rfl) (by kernel_rfl) (by kernel_rfl) (fun _ _ _ h => h) (Or.inl ⟨by rfl, ?_⟩) hHeld ?_
    rotate_left
    · intro w hSw
      go_simp
      try with_reducible rfl
    try simp only [Act.put, List.setIfInBounds_toArray, List.set_cons_zero, List.set_cons_succ]
    refine wpAnyH_ready (rs := [10]) (by kernel_rfl) (by simp) ?_
    refine AllReadyH.cons rfl (fun K hK => ?_) AllReadyH.nil
    have HBX := Lib.hid (box_whole (cs := #[.int .i64 til, .pointer tk]) HX10.out rfl); refine step_store 7 20 199 _ _ _ (box_store (x := #[.int .i64 til, .pointer tk]) HX10.out ent_size (by kernel_rfl) rfl) rfl rfl ?_
    refine hK.out _ _ (below_setCells hS9 _ _ hHeld) (fun hHeld => ?_)
    clear hK K
    refine wpAnyH_take (i := 11) (oi := ⟨some 8, _, _, _, _, _⟩) (v := ?_) rfl (by kernel_rfl) (by kernel_rfl) (by kernel_rfl) (fun _ _ _ h => h) (Or.inl ⟨by rfl, ?_⟩) hHeld ?_
    rotate_left
    · intro w hSw
      go_simp
      try with_reducible rfl
    try simp only [Act.put, List.setIfInBounds_toArray, List.set_cons_zero, List.set_cons_succ]
    refine wpAnyH_done (by kernel_rfl) ?_ _
    have HE := Lib.hid hHeld
    clear hHeld
    try simp only [Act.put, List.setIfInBounds_toArray, List.set_cons_zero, List.set_cons_succ]
    generalize World.setCells _ _ 0 (#[.int .i64 til, .pointer tk] : Array Value).toList = wE at *
    go_wp2
    go_ret
    exact ⟨rfl, HX2.out.below HE.out, T2.out.trans (two_ofB HE.out)⟩
end Go.Proofs.YtpanmfdbdgecaaaGreat.C

namespace Go.Proofs.YtpanmfdbdgecaaaGreat.C
open Go.RowKit
set_option linter.unusedVariables false
theorem TkAt.cells {w : World} {b : Nat} {rate most level now : Int} (h : TkAt w b rate most level now) : w.cell? ⟨b, 0, none⟩ = some (.int .i64 rate) ∧ w.cell? ⟨b, 1, none⟩ = some (.int .i64 most) ∧ w.cell? ⟨b, 2, none⟩ = some (.int .i64 level) ∧ w.cell? ⟨b, 3, none⟩ = some (.int .i64 now) := by
  unfold TkAt at h
  rw [cell_of_row _ _ _ _ _ _ h, cell_of_row _ _ _ _ _ _ h, cell_of_row _ _ _ _ _ _ h, cell_of_row _ _ _ _ _ _ h]
  exact ⟨rfl, rfl, rfl, rfl⟩
theorem TkAt.below {w w' : World} {b : Nat} {rate most level now : Int} (h : TkAt w b rate most level now) (p : Below w.heap.size w w') : TkAt w' b rate most level now := keep_block p h
end Go.Proofs.YtpanmfdbdgecaaaGreat.C

namespace Go.Proofs.YtpanmfdbdgecaaaGreat.C
open Go.RowKit
set_option linter.unusedVariables false
end Go.Proofs.YtpanmfdbdgecaaaGreat.C

namespace Go.Proofs.YtpanmfdbdgecaaaGreat.C
open Go.RowKit
set_option linter.unusedVariables false
end Go.Proofs.YtpanmfdbdgecaaaGreat.C

namespace Go.Proofs.YtpanmfdbdgecaaaGreat.C
open Go.RowKit
set_option linter.unusedVariables false
def adN (N : Nat → Int) (k : Nat) (n : Int) : Nat → Int := upN N k (addC (N k) n)
section
variable {w w' : World} {a : EAd} {F : PCf} {S S' : PSt} {now nx : Int} {N : Nat → Int} {ks : List Nat}
theorem Eng.tur (h : Eng w a F S now N nx) (p : Tur a.A.tg ks w w') (hk : ∀ k, 1 ≤ k → k ≤ 12 → k ∉ ks) : Eng w' a F S now N nx := by
  obtain ⟨t1, t2, t3⟩ := h.tags
  exact ⟨h.pol.tur p (fun k h1 h2 => hk k h1 (by omega)), h.en.tur p (by rw [t1]; exact hk _ (by omega) (by omega)), p.keep h.sch (by rw [t2]; exact hk _ (by omega) (by omega)), h.pac.tur p (by rw [t3]; exact hk _ (by omega) (by omega)), h.tags⟩
theorem Eng.below (h : Eng w a F S now N nx) (p : Below w.heap.size w w') : Eng w' a F S now N nx := h.tur (ks := []) (Tur.of_below p) (by simp)
theorem Eng.drew (h : Eng w a F S now N nx) : Eng w.drew a F S now N nx := h.below (Below.refl _ _).drew
theorem Eng.setEn (h : Eng w a F S now N nx) {now' : Int} {N' : Nat → Int} (p : Tur a.A.tg [10] w w') (k : EnAt w' a.eb a.sb a.A.pb now' N') : Eng w' a F S now' N' nx := by
  obtain ⟨t1, t2, t3⟩ := h.tags
  exact ⟨h.pol.tur p (by intro k h1 h2; simp; omega), k, p.keep h.sch (by rw [t2]; decide), h.pac.tur p (by rw [t3]; decide), h.tags⟩
/-- The police has gone on. -/
theorem Eng.setPol (h : Eng w a F S now N nx) {A' : PAd} (p : Tur a.A.tg ks w w') (hk : 10 ∉ ks ∧ 11 ∉ ks ∧ 12 ∉ ks) (q : Pol w' A' F S') (hpb : A'.pb = a.A.pb) (ht : ∀ k, k < w.heap.size → A'.tg k = a.A.tg k) : Eng w' { a with A := A' } F S' now N nx := by
  obtain ⟨t1, t2, t3⟩ := h.tags
  have hen := h.en.tur p (by rw [t1]; exact hk.1)
  have l1 : a.eb < w.heap.size := by obtain ⟨E, e1, _⟩ := h.en.ptr; exact (Array.getElem?_eq_some_iff.1 e1).1
  have l2 : a.sb < w.heap.size := (Array.getElem?_eq_some_iff.1 h.sch).1
  have l3 : a.pc < w.heap.size := (Array.getElem?_eq_some_iff.1 h.pac).1
  refine ⟨q, ?_, ?_, h.pac.tur p (by rw [t3]; exact hk.2.2), (ht _ l1).trans t1, (ht _ l2).trans t2, (ht _ l3).trans t3⟩
  · show EnAt w' a.eb a.sb A'.pb now N
    rw [hpb]
    exact hen
  · show w'.heap[a.sb]? = some (.cells #[.pointer (some ⟨A'.pb, 0, none⟩), .pointer (some ⟨a.pc, 0, none⟩)] 132 (0, 0))
    rw [hpb]
    exact p.keep h.sch (by rw [t2]; exact hk.2.1)
theorem Eng.lim (h : Eng w a F S now N nx) : a.A.lim ≤ w.heap.size := h.pol.lim
theorem eng_add (k : Nat) (n : Int) (h : Eng w a F S now N nx) (hk : k < 15) :
    Calls Tryz.prog 29 #[.pointer (some ⟨a.eb, 3, none⟩), .int .i64 (k : Nat), .int .i64 n] w fun e w' => e = .returned (.tuple #[]) ∧ Eng w' a F S now (adN N k n) nx ∧ Tur a.A.tg [10] w w' := by
  refine (stats_add a.eb 3 k (N k) n w hk (h.en.n k (by omega)) (h.en.cells.2.2.2 _) (by omega)).mono ?_
  rintro e w' ⟨rfl, hB⟩
  have p : Tur a.A.tg [10] w (w.setCell ⟨a.eb, 3 + k, none⟩ (.int .i64 (addC (N k) n))) := Tur.of_two (Two.setCell (g := a.eb) (h := a.eb) (x := ⟨a.eb, 3 + k, none⟩) (Two.refl _ _ w) (.inl rfl) _) (by simp [h.tags.1]) (by simp [h.tags.1])
  have q : Tur a.A.tg [10] w w' := p.below (by simpa using hB)
  exact ⟨rfl, (h.setEn p (h.en.setN k (by omega) _)).below (by simpa using hB), q⟩
theorem eng_because (k : Nat) (n : Int) (h : Eng w a F S now N nx) (hk : k < 16) :
    Calls Tryz.prog 31 #[.pointer (some ⟨a.eb, 3, none⟩), .int .i64 (k : Nat), .int .i64 n] w fun e w' => e = .returned (.tuple #[]) ∧ Eng w' a F S now (adN N (15 + k) n) nx ∧ Tur a.A.tg [10] w w' := by
  refine (stats_because a.eb 3 k (N (15 + k)) n w hk (by rw [Nat.add_assoc]; exact h.en.n (15 + k) (by omega)) (h.en.cells.2.2.2 _) (by omega)).mono ?_
  rintro e w' ⟨rfl, hB⟩
  rw [Nat.add_assoc] at hB
  have p : Tur a.A.tg [10] w (w.setCell ⟨a.eb, 3 + (15 + k), none⟩ (.int .i64 (addC (N (15 + k)) n))) := Tur.of_two (Two.setCell (g := a.eb) (h := a.eb) (x := ⟨a.eb, 3 + (15 + k), none⟩) (Two.refl _ _ w) (.inl rfl) _) (by simp [h.tags.1]) (by simp [h.tags.1])
  have q : Tur a.A.tg [10] w w' := p.below (by simpa using hB)
  exact ⟨rfl, (h.setEn p (h.en.setN (15 + k) (by omega) _)).below (by simpa using hB), q⟩
theorem eng_drop (k : Nat) (h : Eng w a F S now N nx) (hk : k < 16) :
    Calls Tryz.prog 32 #[.pointer (some ⟨a.eb, 0, none⟩), .int .i64 (k : Nat)] w fun e w' => e = .returned (.tuple #[]) ∧ Eng w' a F S now (adN (adN N 5 1) (15 + k) 1) nx ∧ Tur a.A.tg [10] w w' := by
  have C1 : Hid (Calls Tryz.prog 29 #[.pointer (some ⟨a.eb, 3, none⟩), .int .i64 5, .int .i64 1] w fun e w' => e = .returned (.tuple #[]) ∧ Eng w' a F S now (adN N 5 1) nx ∧ Tur a.A.tg [10] w w') := Lib.hid (eng_add 5 1 h (by decide))
  have C2 := Lib.hid (fun w' (q : Eng w' a F S now (adN N 5 1) nx) => eng_because k 1 q hk)
  clear h
  go_enter Tryz.func32, Tryz.ntmps32
  go_wp2_with fail
  refine C1.out.mono ?_
  rintro e w1 ⟨rfl, h1, t1⟩
  have H1 := Lib.hid h1
  clear h1 C1
  go_wp2_with fail
  refine (C2.out _ H1.out).mono ?_
  rintro e w2 ⟨rfl, h2, t2⟩
  have H2 := Lib.hid h2
  clear h2 C2
  go_wp2
  go_end0
  exact ⟨rfl, H2.out, t1.trans t2⟩
theorem eng_ahead (h : Eng w a F S now N nx) : Calls Tryz.prog 28 #[.pointer (some ⟨a.eb, 0, none⟩)] w fun e w' => e = .returned (.tuple #[]) ∧ w' = w :=
  engine_ahead a.eb a.A.pb a.A.gb _ _ _ w h.en.cells.2.1 h.pol.c20 h.pol.gn
end
end Go.Proofs.YtpanmfdbdgecaaaGreat.C

namespace Go.Proofs.YtpanmfdbdgecaaaGreat.C
open Go.RowKit
set_option linter.unusedVariables false
theorem pz_size46 : PZ.size = 46 := by kernel_rfl
section
variable {w : World} {a : EAd} {F : PCf} {S : PSt} {now nx : Int} {N : Nat → Int}
set_option maxRecDepth 100000 in
set_option maxHeartbeats 4000000 in
theorem frame_short (dr : Array Value) (h : Eng w a F S now N nx) :
    Calls Tryz.prog 11 #[.pointer (some ⟨a.eb, 0, none⟩), .slice none 0 0, .agg dr] w fun e w' => e = .returned (.agg #[.int .i64 (-1), .int .i64 1, .int .i64 (-1), .int .i64 (-1), .bool false, .bool false]) ∧ Eng w' a F S now (adN (adN (adN N 0 1) 1 1) 16 1) nx ∧ Tur a.A.tg [10] w w' := by
  have CA := Lib.hid (fun w' (q : Eng w' a F S now N nx) => eng_ahead q)
  have C1 : Hid (∀ w', Eng w' a F S now N nx → Calls Tryz.prog 29 #[.pointer (some ⟨a.eb, 3, none⟩), .int .i64 0, .int .i64 1] w' fun e w'' => e = .returned (.tuple #[]) ∧ Eng w'' a F S now (adN N 0 1) nx ∧ Tur a.A.tg [10] w' w'') := Lib.hid fun w' q => eng_add 0 1 q (by decide)
  have C2 : Hid (∀ w', Eng w' a F S now (adN N 0 1) nx → Calls Tryz.prog 29 #[.pointer (some ⟨a.eb, 3, none⟩), .int .i64 1, .int .i64 1] w' fun e w'' => e = .returned (.tuple #[]) ∧ Eng w'' a F S now (adN (adN N 0 1) 1 1) nx ∧ Tur a.A.tg [10] w' w'') := Lib.hid fun w' q => eng_add 1 1 q (by decide)
  have C3 : Hid (∀ w', Eng w' a F S now (adN (adN N 0 1) 1 1) nx → Calls Tryz.prog 31 #[.pointer (some ⟨a.eb, 3, none⟩), .int .i64 1, .int .i64 1] w' fun e w'' => e = .returned (.tuple #[]) ∧ Eng w'' a F S now (adN (adN (adN N 0 1) 1 1) 16 1) nx ∧ Tur a.A.tg [10] w' w'') := Lib.hid fun w' q => eng_because 1 1 q (by decide)
  have CF := Lib.hid (fun w' => frame_nil w')
  obtain ⟨VZ0, hVZ⟩ : ∃ z, VZ = z := ⟨_, rfl⟩
  have hvz := vz_zero
  rw [hVZ] at hvz
  have HVZ := Lib.hid hvz
  have HVE := Lib.hid hVZ
  have hpz := pz_zero
  have hps := pk_size
  have hp46 := pz_size46
  have hpa : PZ.all (·.oneCell') = true := by kernel_rfl
  generalize PZ = Z at *
  have HPZ := Lib.hid hpz
  have HPS := Lib.hid hps
  have HP46 := Lib.hid hp46
  have HPA := Lib.hid hpa
  have HE := Lib.hid h
  have hlim := h.lim
  clear h hvz hVZ hpz hps hp46 hpa
  refine calls_hide fun Q HQ => ?_
  go_enter Tryz.func11, Tryz.ntmps11
  go_upto_region 3 with (first | ((with_reducible refine arm_box 5 2 41 dr ?_ ?_); rfl; intro w1 HB1 HX1 HS1) | ((with_reducible refine arm_alloc 6 35 VZ0 6 HVZ.out ?_); intro w2 HB2 HX2 HS2))
  have HE2 := Lib.hid ((HE.out.below HB1.out).below HB2.out)
  have T2 : Hid (Tur a.A.tg [10] w w2) := Lib.hid ((Tur.of_below HB1.out).below HB2.out)
  have R2 := Lib.hid HX2.out
  have hz : a.A.tg w1.heap.size = 0 := HE.out.pol.ok.hi _ (Nat.le_trans hlim HB1.out.size)
  have hrb : w.heap.size ≤ w1.heap.size := HB1.out.size
  generalize w1.heap.size = rb at *
  clear HB1 HX1 HS1 HB2 HX2 HS2
  go_wp2_with fail
  refine (CA.out _ HE2.out).mono ?_
  rintro e w3 ⟨rfl, rfl⟩
  go_wp2_with fail
  refine (C1.out _ HE2.out).mono ?_
  rintro e w4 ⟨rfl, h4, t4⟩
  have HE4 := Lib.hid h4
  have T4 := Lib.hid (T2.out.trans t4)
  have R4 := Lib.hid (t4.keep R2.out (by rw [hz]; decide))
  clear h4 t4 HE2 T2 R2 C1 CA
  go_wp2_with fail
  refine (CF.out _).mono ?_
  rintro e w5 ⟨rfl, hB⟩
  have HE5 := Lib.hid (HE4.out.below hB)
  have T5 := Lib.hid (T4.out.below hB)
  have R5 := Lib.hid (keep_block hB R4.out)
  clear hB HE4 T4 R4 CF
  go_upto_region 6 with (first | ((with_reducible refine arm_alloc 7 68 Z 46 HPZ.out ?_); intro w6 HB6 HX6 HS6; have hst := box_store (t := 68) (x := Z) HX6.out HPS.out HPA.out rfl; have hf6 := Lib.hid (below_setCells (b := w5.heap.size) (Nat.le_refl _) Z.toList 0 HB6.out)) | ((with_reducible refine arm_store 7 22 68 _ _ _ hst ?_ ?_ ?_); rfl; rfl))
  have HE6 := Lib.hid (HE5.out.below hf6.out)
  have T6 := Lib.hid (T5.out.below hf6.out)
  have R6 := Lib.hid (keep_block hf6.out R5.out)
  clear hst HX6 HB6 HS6 hf6 HE5 T5 R5
  generalize World.setCells w6 _ 0 Z.toList = w7 at *
  go_wp2_with fail
  refine (C2.out _ HE6.out).mono ?_
  rintro e w8 ⟨rfl, h8, t8⟩
  have HE8 := Lib.hid h8
  have T8 := Lib.hid (T6.out.trans t8)
  have R8 := Lib.hid (t8.keep R6.out (by rw [hz]; decide))
  clear h8 t8 HE6 T6 R6 C2
  go_wp2_with fail
  refine (C3.out _ HE8.out).mono ?_
  rintro e w9 ⟨rfl, h9, t9⟩
  have HE9 := Lib.hid h9
  have T9 := Lib.hid (T8.out.trans t9)
  have R9 := Lib.hid (t9.keep R8.out (by rw [hz]; decide))
  clear h9 t9 HE8 T8 R8 C3
  have hvt : (Tryz.prog.info? 35).map (·.size) = some 6 := by kernel_rfl
  have hz6 : VZ0.size = 6 := by rw [← HVE.out]; rfl
  have hst := box_store (t := 35) (x := #[.int .i64 (-1), .int .i64 1, .int .i64 (-1), .int .i64 (-1), .bool false, .bool false]) R9.out hvt (by kernel_rfl) hz6
  have hbox := box_whole (cs := #[.int .i64 (-1), .int .i64 1, .int .i64 (-1), .int .i64 (-1), .bool false, .bool false]) R9.out hz6.symm
  have tj : Tur a.A.tg [0] w9 (World.setCells w9 rb 0 (#[.int .i64 (-1), .int .i64 1, .int .i64 (-1), .int .i64 (-1), .bool false, .bool false] : Array Value).toList) := Tur.of_two (Two.setCells (g := rb) (h := rb) (.inl rfl) _ 0 (Two.refl _ _ _)) (by simp [hz]) (by simp [hz])
  have HEJ := Lib.hid (HE9.out.tur tj (by intro k h1 h2; simp; omega))
  have TJ : Hid (Tur a.A.tg [10] w (World.setCells w9 rb 0 (#[.int .i64 (-1), .int .i64 1, .int .i64 (-1), .int .i64 (-1), .bool false, .bool false] : Array Value).toList)) := Lib.hid (T9.out.trans2 (f := a.A.tg) (g := fun k => if k = rb then 10 else a.A.tg k) (Tur.of_two (Two.setCells (g := rb) (h := rb) (.inl rfl) _ 0 (Two.refl _ _ _)) (by simp) (by simp)) (fun k hk => if_neg (by omega)))
  have HBXX := Lib.hid hbox
  clear hbox tj
  go_wp2_with ((with_reducible refine arm_store 6 36 35 _ _ _ hst ?_ ?_ ?_); rfl; rfl)
  refine bodyPost_ret (results_cell_row rfl _ _ _ _ _ _ _ rfl HBXX.out Tryz.underlying35 rfl hvt) rfl ?_
  exact HQ.out _ _ ⟨rfl, HEJ.out, TJ.out⟩
end
end Go.Proofs.YtpanmfdbdgecaaaGreat.C

namespace Go.Proofs.YtpanmfdbdgecaaaGreat.C
open Go.RowKit
set_option linter.unusedVariables false
theorem FrAt.tur {f : Nat → Nat} {ks : List Nat} {w w' : World} {g o n c : Nat} {B : Nat → Nat} (h : FrAt w g o n c B) (t : Tur f ks w w') (hne : f g ∉ ks) : FrAt w' g o n c B :=
  ⟨fun j hj => by rw [World.cell?_of_block (t.block g h.blk hne)]; exact h.cell j hj, h.byte, h.cap, Nat.lt_of_lt_of_le h.blk t.size⟩
theorem Tur.fresh {f : Nat → Nat} {ks : List Nat} {a b : World} (p : Tur f ks a b) {x : Nat} (hx : a.heap.size ≤ x) (cs : List Value) (o : Nat) : Tur f ks a (b.setCells x o cs) := by
  have q := Two.setCells (g := x) (h := x) (.inl rfl) cs o (Two.refl x x b)
  exact ⟨q.os.trans p.os, q.tape.trans p.tape, q.output.trans p.output, Nat.le_trans p.size q.size, fun k hk hn => (q.block k (Nat.lt_of_lt_of_le hk p.size) (by omega) (by omega)).trans (p.block k hk hn)⟩
theorem Eng.fresh {w : World} {a : EAd} {F : PCf} {S : PSt} {now nx : Int} {N : Nat → Int} (h : Eng w a F S now N nx) {x : Nat} (hx : a.A.tg x = 0) (cs : List Value) (o : Nat) : Eng (w.setCells x o cs) a F S now N nx :=
  h.tur (ks := [0]) (Tur.of_two (Two.setCells (g := x) (h := x) (.inl rfl) cs o (Two.refl x x w)) (by simp [hx]) (by simp [hx])) (by intro k h1 h2; simp; omega)
def frA (N : Nat → Int) (r : Nat) : Nat → Int := if r = 0 then adN N 3 1 else adN (adN N 5 1) (15 + r) 1
def frB (N : Nat → Int) (k : Nat) (b : Bool) : Nat → Int := if b then adN N k 1 else N
/-- What is counted of a frame. -/
def frN (N : Nat → Int) (n : Int) (r : Nat) (bo bf : Bool) : Nat → Int := frB (frB (frA (adN (adN (adN N 0 1) 2 1) 6 n) r) 8 bo) 9 bf
section
variable {w : World} {a : EAd} {F : PCf} {S : PSt} {now nx : Int} {N : Nat → Int}
theorem eng_add0 (h : Eng w a F S now N nx) : Calls Tryz.prog 29 #[.pointer (some ⟨a.eb, 3, none⟩), .int .i64 0, .int .i64 1] w fun e w' => e = .returned (.tuple #[]) ∧ Eng w' a F S now (adN N 0 1) nx ∧ Tur a.A.tg [10] w w' := eng_add 0 1 h (by decide)
theorem eng_add2 (h : Eng w a F S now N nx) : Calls Tryz.prog 29 #[.pointer (some ⟨a.eb, 3, none⟩), .int .i64 2, .int .i64 1] w fun e w' => e = .returned (.tuple #[]) ∧ Eng w' a F S now (adN N 2 1) nx ∧ Tur a.A.tg [10] w w' := eng_add 2 1 h (by decide)
theorem eng_add3 (h : Eng w a F S now N nx) : Calls Tryz.prog 29 #[.pointer (some ⟨a.eb, 3, none⟩), .int .i64 3, .int .i64 1] w fun e w' => e = .returned (.tuple #[]) ∧ Eng w' a F S now (adN N 3 1) nx ∧ Tur a.A.tg [10] w w' := eng_add 3 1 h (by decide)
theorem eng_add8 (h : Eng w a F S now N nx) : Calls Tryz.prog 29 #[.pointer (some ⟨a.eb, 3, none⟩), .int .i64 8, .int .i64 1] w fun e w' => e = .returned (.tuple #[]) ∧ Eng w' a F S now (adN N 8 1) nx ∧ Tur a.A.tg [10] w w' := eng_add 8 1 h (by decide)
theorem eng_add9 (h : Eng w a F S now N nx) : Calls Tryz.prog 29 #[.pointer (some ⟨a.eb, 3, none⟩), .int .i64 9, .int .i64 1] w fun e w' => e = .returned (.tuple #[]) ∧ Eng w' a F S now (adN N 9 1) nx ∧ Tur a.A.tg [10] w w' := eng_add 9 1 h (by decide)
theorem eng_add6 (n : Int) (h : Eng w a F S now N nx) : Calls Tryz.prog 29 #[.pointer (some ⟨a.eb, 3, none⟩), .int .i64 6, .int .i64 n] w fun e w' => e = .returned (.tuple #[]) ∧ Eng w' a F S now (adN N 6 n) nx ∧ Tur a.A.tg [10] w w' := eng_add 6 n h (by decide)
set_option maxRecDepth 100000 in
set_option maxHeartbeats 8000000 in
theorem frame_arr (g o n c : Nat) (B : Nat → Nat) (dr : Array Value) (hdr : dr.size = 2) (h : Eng w a F S now N nx) (hf : FrAt w g o n c B) (hg : a.A.tg g = 0) (hu : UdpB B n) (sq cl : Int) (r : Nat) (hr : r < 16) (bo bf : Bool) (R : PAd → PSt → Prop)
    (harr : ∀ w', Pol w' a.A F S → Calls Tryz.prog 20 #[.pointer (some ⟨a.A.pb, 0, none⟩), .agg (pktB B n), .int .i64 now, .agg dr] w' fun e w'' => ∃ A' S', e = .returned (.agg #[.int .i64 sq, .int .i64 (r : Nat), .int .i64 cl, .int .i64 (-1), .bool bo, .bool bf]) ∧ Pol w'' A' F S' ∧ R A' S' ∧ Tur a.A.tg [1, 3, 4, 5, 6, 7, 8, 9] w' w'' ∧ A'.pb = a.A.pb ∧ ∀ k, k < w'.heap.size → A'.tg k = a.A.tg k) :
    Calls Tryz.prog 11 #[.pointer (some ⟨a.eb, 0, none⟩), .slice (some ⟨g, o, none⟩) n c, .agg dr] w fun e w' => ∃ A' S', e = .returned (.agg #[.int .i64 sq, .int .i64 (r : Nat), .int .i64 cl, .int .i64 (-1), .bool bo, .bool bf]) ∧ Eng w' { a with A := A' } F S' now (frN N n r bo bf) nx ∧ R A' S' ∧ Tur a.A.tg [1, 3, 4, 5, 6, 7, 8, 9, 10] w w' ∧ A'.pb = a.A.pb ∧ ∀ k, k < w.heap.size → A'.tg k = a.A.tg k := by
  have CA := Lib.hid (fun w' (q : Eng w' a F S now N nx) => eng_ahead q)
  have CF := Lib.hid (fun w' (q : FrAt w' g o n c B) => frame_udp g o n c B w' q hu)
  have HAR := Lib.hid harr
  have hpk : Pk (pktB B n) := pktX_pk _ _ _ _ _ _ _ _ _ _ _
  have h45 : (pktB B n)[45]? = some (.int .i64 (n : Nat)) := by kernel_rfl
  obtain ⟨x, hx⟩ : ∃ z, pktB B n = z := ⟨_, rfl⟩
  rw [hx] at CF HAR hpk h45
  have HPK := Lib.hid hpk
  have H45 := Lib.hid h45
  have HU := Lib.hid hu
  obtain ⟨VZ0, hVZ⟩ : ∃ z, VZ = z := ⟨_, rfl⟩
  have hvz := vz_zero
  rw [hVZ] at hvz
  have HVZ := Lib.hid hvz
  have HVE := Lib.hid hVZ
  have hpz := pz_zero
  have hps := pk_size
  have hp46 := pz_size46
  generalize PZ = Z at *
  have HPZ := Lib.hid hpz
  have HPS := Lib.hid hps
  have HP46 := Lib.hid hp46
  have HDR := Lib.hid hdr
  have HE := Lib.hid h
  have HF := Lib.hid hf
  have hlim := h.lim
  clear h hvz hVZ hpz hps hp46 hf hu harr hpk h45 hx hdr
  refine calls_hide fun Q HQ => ?_
  go_enter Tryz.func11, Tryz.ntmps11
  go_upto_region 3 with (first | ((with_reducible refine arm_box 5 2 41 dr ?_ ?_); rfl; intro w1 HB1 HX1 HS1) | ((with_reducible refine arm_alloc 6 35 VZ0 6 HVZ.out ?_); intro w2 HB2 HX2 HS2))
  have HE2 := Lib.hid ((HE.out.below HB1.out).below HB2.out)
  have F2 := Lib.hid ((HF.out.below HF.out.blk HB1.out (Nat.le_refl _)).below (Nat.lt_of_lt_of_le HF.out.blk HB1.out.size) HB2.out (Nat.le_refl _))
  have T2 : Hid (Tur a.A.tg [1, 3, 4, 5, 6, 7, 8, 9, 10] w w2) := Lib.hid ((Tur.of_below HB1.out).below HB2.out)
  have R2 := Lib.hid HX2.out
  have D2 := Lib.hid (keep_block HB2.out HX1.out)
  have hz : a.A.tg w1.heap.size = 0 := HE.out.pol.ok.hi _ (Nat.le_trans hlim HB1.out.size)
  have hzd : a.A.tg w.heap.size = 0 := HE.out.pol.ok.hi _ hlim
  have hrb : w.heap.size ≤ w1.heap.size := HB1.out.size
  generalize w1.heap.size = rb at *
  clear HB1 HX1 HS1 HB2 HX2 HS2 HF
  go_wp2_with fail
  refine (CA.out _ HE2.out).mono ?_
  rintro e w3 ⟨rfl, rfl⟩
  go_wp2_with fail
  refine (eng_add0 HE2.out).mono ?_
  rintro e w4 ⟨rfl, h4, t4⟩
  have HE4 := Lib.hid h4
  have F4 := Lib.hid (F2.out.tur t4 (by rw [hg]; decide))
  have T4 := Lib.hid (T2.out.trans (t4.sub (js := [1, 3, 4, 5, 6, 7, 8, 9, 10]) (by simp)))
  have R4 := Lib.hid (t4.keep R2.out (by rw [hz]; decide))
  have D4 := Lib.hid (t4.keep D2.out (by rw [hzd]; decide))
  clear h4 t4 HE2 T2 R2 D2 F2 CA
  go_wp2_with fail
  refine (CF.out _ F4.out).mono ?_
  rintro e w5 ⟨rfl, hB⟩
  have HE5 := Lib.hid (HE4.out.below hB)
  have T5 := Lib.hid (T4.out.below hB)
  have R5 := Lib.hid (keep_block hB R4.out)
  have D5 := Lib.hid (keep_block hB D4.out)
  clear hB HE4 T4 R4 D4 F4 CF
  have hxs : (Tryz.prog.info? 68).map (·.size) = some x.size := by rw [HPK.out.size, ← HP46.out]; exact HPS.out
  go_upto_region 6 with (first | ((with_reducible refine arm_alloc 7 68 Z 46 HPZ.out ?_); intro w6 HB6 HX6 HS6; have hst := box_store (t := 68) (x := x) HX6.out hxs HPK.out.one (HP46.out.trans HPK.out.size.symm); have hbx6 := Lib.hid (box_whole (cs := x) HX6.out (HPK.out.size.trans HP46.out.symm)); have hf6 := Lib.hid (below_setCells (b := w5.heap.size) (Nat.le_refl _) x.toList 0 HB6.out)) | ((with_reducible refine arm_store 7 22 68 _ _ _ hst ?_ ?_ ?_); rfl; rfl))
  have HE6 := Lib.hid (HE5.out.below hf6.out)
  have T6 := Lib.hid (T5.out.below hf6.out)
  have R6 := Lib.hid (keep_block hf6.out R5.out)
  have D6 := Lib.hid (keep_block hf6.out D5.out)
  have X6 := Lib.hid hbx6.out
  have hzx : a.A.tg w5.heap.size = 0 := HE5.out.pol.ok.hi _ HE5.out.lim
  have hxb : w.heap.size ≤ w5.heap.size := T5.out.size
  clear hst HX6 HB6 HS6 hf6 HE5 T5 R5 D5 hbx6
  generalize World.setCells w6 _ 0 x.toList = w7 at *
  generalize w5.heap.size = xb at *
  go_wp2_with fail
  refine (eng_add2 HE6.out).mono ?_
  rintro e w8 ⟨rfl, h8, t8⟩
  have HE8 := Lib.hid h8
  have T8 := Lib.hid (T6.out.trans (t8.sub (js := [1, 3, 4, 5, 6, 7, 8, 9, 10]) (by simp)))
  have R8 := Lib.hid (t8.keep R6.out (by rw [hz]; decide))
  have D8 := Lib.hid (t8.keep D6.out (by rw [hzd]; decide))
  have X8 := Lib.hid (t8.keep X6.out (by rw [hzx]; decide))
  clear h8 t8 HE6 T6 R6 D6 X6
  have HL8 : Hid (∀ w', Tur a.A.tg [10] w8 w' → w'.cell? ⟨xb, 45, none⟩ = some (.int .i64 (n : Nat))) := Lib.hid fun w' q => cells_of_row (q.keep X8.out (by rw [hzx]; decide)) 45 _ H45.out
  go_wp2_with fail
  refine wp_region_held_drew (S := Tur a.A.tg [10] w8) (by kernel_rfl) (Tur.refl _ _ _).drew (fun hHeld => ?_)
  refine wpAnyH_take (i := 0) (oi := ⟨some 41, _, _, _, _, _⟩) (v := ?_) rfl (by kernel_rfl) (by kernel_rfl) (by kernel_rfl) (fun _ _ _ h => h) (Or.inl ⟨by rfl, ?_⟩) hHeld ?_
  rotate_left
  · intro w hSw
    go_simp
    try with_reducible rfl
  try simp only [Act.put, List.setIfInBounds_toArray, List.set_cons_zero, List.set_cons_succ]
  refine wpAnyH_take (i := 1) (oi := ⟨some 42, _, _, _, _, _⟩) (v := ?_) rfl (by kernel_rfl) (by kernel_rfl) (by kernel_rfl) (fun _ _ _ h => h) (Or.inl ⟨by rfl, ?_⟩) hHeld ?_
  rotate_left
  · intro w hSw
    go_simp
    try with_reducible rfl
  try simp only [Act.put, List.setIfInBounds_toArray, List.set_cons_zero, List.set_cons_succ]
  refine wpAnyH_take (i := 2) (oi := ⟨some 43, _, _, _, _, _⟩) (v := ?_) rfl (by kernel_rfl) (by kernel_rfl) (by kernel_rfl) (fun _ _ _ h => h) (Or.inl ⟨by rfl, ?_⟩) hHeld ?_
  rotate_left
  · intro w hSw
    go_simp
    try with_reducible rfl
  try simp only [Act.put, List.setIfInBounds_toArray, List.set_cons_zero, List.set_cons_succ]
  refine wpAnyH_take (i := 3) (oi := ⟨some 44, _, _, _, _, _⟩) (v := ?_) rfl (by kernel_rfl) (by kernel_rfl) (by kernel_rfl) (fun _ _ _ h => h) (Or.inl ⟨by rfl, ?_⟩) hHeld ?_
  rotate_left
  · intro w hSw
    go_simp
    try with_reducible rfl
  try simp only [Act.put, List.setIfInBounds_toArray, List.set_cons_zero, List.set_cons_succ]
  refine wpAnyH_take (i := 4) (oi := ⟨some 45, _, _, _, _, _⟩) (v := ?_) rfl (by kernel_rfl) (by kernel_rfl) (by kernel_rfl) (fun _ _ _ h => h) (Or.inl ⟨by rfl, ?_⟩) hHeld ?_
  rotate_left
  · intro w hSw
    obtain k0 := HL8.out w hSw
    go_simp
    try with_reducible rfl
  try simp only [Act.put, List.setIfInBounds_toArray, List.set_cons_zero, List.set_cons_succ]
  refine wpAnyH_ready (rs := [5]) (by kernel_rfl) (by simp) ?_
  refine AllReadyH.cons rfl (fun K hK => ?_) AllReadyH.nil
  go_simp
  go_wp2_with (go_at_call 29; go_must (refine (eng_add6 n HE8.out.drew).mono ?_; rintro e w5 ⟨rfl, h5, t5⟩))
  refine hK.out _ _ (hHeld.trans t5) (fun hHeld => ?_)
  clear hK K
  refine wpAnyH_done (by kernel_rfl) ?_ _
  have HE9 := Lib.hid h5
  have T9 := Lib.hid (T8.out.trans (hHeld.sub (js := [1, 3, 4, 5, 6, 7, 8, 9, 10]) (by simp)))
  have R9 := Lib.hid (hHeld.keep R8.out (by rw [hz]; decide))
  have D9 := Lib.hid (hHeld.keep D8.out (by rw [hzd]; decide))
  have X9 := Lib.hid (hHeld.keep X8.out (by rw [hzx]; decide))
  clear hHeld h5 t5 HL8 HE8 T8 R8 D8 X8
  generalize w5 = w9 at *
  have hdt : (Tryz.prog.info? 41).map (·.size) = some dr.size := by rw [HDR.out]; kernel_rfl
  have HL9 : Hid (∀ w', Tur a.A.tg [1, 3, 4, 5, 6, 7, 8, 9] w9 w' → (w'.cell? ⟨a.eb, 1, none⟩ = some (.pointer (some ⟨a.A.pb, 0, none⟩)) ∧ w'.cell? ⟨a.eb, 2, none⟩ = some (.int .i64 now)) ∧ (Instr.loadAt 68 (.pointer (some ⟨xb, 0, none⟩))).run Tryz.prog w' = .ok (.agg x) w' ∧ (Instr.loadAt 41 (.pointer (some ⟨w.heap.size, 0, none⟩))).run Tryz.prog w' = .ok (.agg dr) w') := Lib.hid fun w' q => by
    have he := (HE9.out.en.tur q (by rw [HE9.out.tags.1]; decide)).cells
    exact ⟨⟨he.2.1, he.2.2.1⟩, pkt_load (q.keep X9.out (by rw [hzx]; decide)) HPK.out, box_load (t := 41) (q.keep D9.out (by rw [hzd]; decide)) _ Tryz.underlying41 rfl hdt⟩
  have hvt : (Tryz.prog.info? 35).map (·.size) = some 6 := by kernel_rfl
  have hz6 : VZ0.size = 6 := by rw [← HVE.out]; rfl
  go_wp2_with fail
  refine wp_region_held_drew (S := Tur a.A.tg [1, 3, 4, 5, 6, 7, 8, 9] w9) (by kernel_rfl) (Tur.refl _ _ _).drew (fun hHeld => ?_)
  refine wpAnyH_take (i := 0) (oi := ⟨some 47, _, _, _, _, _⟩) (v := ?_) rfl (by kernel_rfl) (by kernel_rfl) (by kernel_rfl) (fun _ _ _ h => h) (Or.inl ⟨by rfl, ?_⟩) hHeld ?_
  rotate_left
  · intro w hSw
    go_simp
    try with_reducible rfl
  try simp only [Act.put, List.setIfInBounds_toArray, List.set_cons_zero, List.set_cons_succ]
  refine wpAnyH_take (i := 1) (oi := ⟨some 48, _, _, _, _, _⟩) (v := ?_) rfl (by kernel_rfl) (by kernel_rfl) (by kernel_rfl) (fun _ _ _ h => h) (Or.inl ⟨by rfl, ?_⟩) hHeld ?_
  rotate_left
  · intro w hSw
    go_simp
    try with_reducible rfl
  try simp only [Act.put, List.setIfInBounds_toArray, List.set_cons_zero, List.set_cons_succ]
  refine wpAnyH_take (i := 2) (oi := ⟨some 49, _, _, _, _, _⟩) (v := ?_) rfl (by kernel_rfl) (by kernel_rfl) (by kernel_rfl) (fun _ _ _ h => h) (Or.inl ⟨by rfl, ?_⟩) hHeld ?_
  rotate_left
  · intro w hSw
    go_simp
    try with_reducible rfl
  try simp only [Act.put, List.setIfInBounds_toArray, List.set_cons_zero, List.set_cons_succ]
  refine wpAnyH_take (i := 3) (oi := ⟨some 50, _, _, _, _, _⟩) (v := ?_) rfl (by kernel_rfl) (by kernel_rfl) (by kernel_rfl) (fun _ _ _ h => h) (Or.inl ⟨by rfl, ?_⟩) hHeld ?_
  rotate_left
  · intro w hSw
    obtain ⟨⟨k0, k1⟩, _⟩ := HL9.out w hSw
    go_simp
    try with_reducible rfl
  try simp only [Act.put, List.setIfInBounds_toArray, List.set_cons_zero, List.set_cons_succ]
  refine wpAnyH_take (i := 4) (oi := ⟨some 51, _, _, _, _, _⟩) (v := .agg x) rfl (by kernel_rfl) (by kernel_rfl) (by kernel_rfl) (fun _ _ _ h => h) (Or.inl ⟨by rfl, fun w hSw => exec_load rfl (HL9.out w hSw).2.1⟩) hHeld ?_
  try simp only [Act.put, List.setIfInBounds_toArray, List.set_cons_zero, List.set_cons_succ]
  refine wpAnyH_take (i := 5) (oi := ⟨some 52, _, _, _, _, _⟩) (v := ?_) rfl (by kernel_rfl) (by kernel_rfl) (by kernel_rfl) (fun _ _ _ h => h) (Or.inl ⟨by rfl, ?_⟩) hHeld ?_
  rotate_left
  · intro w hSw
    go_simp
    try with_reducible rfl
  try simp only [Act.put, List.setIfInBounds_toArray, List.set_cons_zero, List.set_cons_succ]
  refine wpAnyH_take (i := 6) (oi := ⟨some 53, _, _, _, _, _⟩) (v := ?_) rfl (by kernel_rfl) (by kernel_rfl) (by kernel_rfl) (fun _ _ _ h => h) (Or.inl ⟨by rfl, ?_⟩) hHeld ?_
  rotate_left
  · intro w hSw
    go_simp
    try with_reducible rfl
  try simp only [Act.put, List.setIfInBounds_toArray, List.set_cons_zero, List.set_cons_succ]
  refine wpAnyH_take (i := 7) (oi := ⟨some 54, _, _, _, _, _⟩) (v := ?_) rfl (by kernel_rfl) (by kernel_rfl) (by kernel_rfl) (fun _ _ _ h => h) (Or.inl ⟨by rfl, ?_⟩) hHeld ?_
  rotate_left
  · intro w hSw
    go_simp
    try with_reducible rfl
  try simp only [Act.put, List.setIfInBounds_toArray, List.set_cons_zero, List.set_cons_succ]
  refine wpAnyH_take (i := 8) (oi := ⟨some 55, _, _, _, _, _⟩) (v := ?_) rfl (by kernel_rfl) (by kernel_rfl) (by kernel_rfl) (fun _ _ _ h => h) (Or.inl ⟨by rfl, ?_⟩) hHeld ?_
  rotate_left
  · intro w hSw
    obtain ⟨⟨k0, k1⟩, _⟩ := HL9.out w hSw
    go_simp
    try with_reducible rfl
  try simp only [Act.put, List.setIfInBounds_toArray, List.set_cons_zero, List.set_cons_succ]
  refine wpAnyH_take (i := 9) (oi := ⟨some 56, _, _, _, _, _⟩) (v := .agg dr) rfl (by kernel_rfl) (by kernel_rfl) (by kernel_rfl) (fun _ _ _ h => h) (Or.inl ⟨by rfl, fun w hSw => exec_load rfl (HL9.out w hSw).2.2⟩) hHeld ?_
  try simp only [Act.put, List.setIfInBounds_toArray, List.set_cons_zero, List.set_cons_succ]
  refine wpAnyH_ready (rs := [10, 11]) (by kernel_rfl) (by simp) ?_
  refine AllReadyH.cons rfl (fun K hK => ?ordA) (AllReadyH.cons rfl (fun K hK => ?ordB) AllReadyH.nil)
  case' ordA =>
    go_simp
    go_wp2_with (go_at_call 20; go_must (refine (HAR.out _ HE9.out.drew.pol).mono ?_; rintro e w10 ⟨A', S', rfl, hP, hR, hT, hpb, htg⟩))
    refine hK.out _ _ (hHeld.trans hT) (fun hHeld => ?_)
    clear hK K
    refine wpAnyH_ready (rs := [11]) (by kernel_rfl) (by simp) ?_
    refine AllReadyH.cons rfl (fun K hK => ?_) AllReadyH.nil
    refine step_alloc 9 35 VZ0 6 HVZ.out ?_; intro W11 HB11 HX11 HS11
    refine hK.out _ _ (hHeld.below HB11.out) (fun hHeld => ?_)
    clear hK K
    obtain ⟨vb, hvb⟩ : ∃ z, w10.heap.size = z := ⟨_, rfl⟩
    have hEA := (HE9.out.drew.setPol hT (by decide) hP hpb htg).below HB11.out
    have hv0 : A'.tg vb = 0 := by rw [← hvb]; exact hP.ok.hi _ hP.lim
    have hage : w9.heap.size ≤ vb := by rw [← hvb]; exact Nat.le_trans hT.size (Nat.le_refl _)
    have hlz : rb < w9.drew.heap.size := (Array.getElem?_eq_some_iff.1 R9.out).1
    have hlq : w.heap.size ≤ w9.drew.heap.size := T9.out.size
    rw [hvb] at HX11
    rw [hvb]
    have hst := box_store (t := 35) (x := #[.int .i64 sq, .int .i64 (r : Nat), .int .i64 cl, .int .i64 (-1), .bool bo, .bool bf]) HX11.out hvt (by kernel_rfl) hz6
    have HBX := Lib.hid (box_whole (cs := #[.int .i64 sq, .int .i64 (r : Nat), .int .i64 cl, .int .i64 (-1), .bool bo, .bool bf]) HX11.out hz6.symm)
    refine wpAnyH_ready (rs := [12]) (by kernel_rfl) (by simp) ?_
    refine AllReadyH.cons rfl (fun K hK => ?_) AllReadyH.nil
    refine step_store 9 57 35 _ _ _ hst rfl rfl ?_
    refine hK.out _ _ (hHeld.fresh hage _ _) (fun hHeld => ?_)
    clear hK K
    refine wpAnyH_done (by kernel_rfl) ?_ _
  case' ordB =>
    refine step_alloc 9 35 VZ0 6 HVZ.out ?_; intro W11 HB11 HX11 HS11
    refine hK.out _ _ (hHeld.below HB11.out) (fun hHeld => ?_)
    clear hK K
    refine wpAnyH_ready (rs := [10]) (by kernel_rfl) (by simp) ?_
    refine AllReadyH.cons rfl (fun K hK => ?_) AllReadyH.nil
    go_simp
    go_wp2_with (go_at_call 20; go_must (refine (HAR.out _ (HE9.out.drew.pol.below HB11.out)).mono ?_; rintro e w10 ⟨A', S', rfl, hP, hR, hT, hpb, htg⟩))
    refine hK.out _ _ (hHeld.trans hT) (fun hHeld => ?_)
    clear hK K
    obtain ⟨vb, hvb⟩ : ∃ z, w9.heap.size = z := ⟨_, rfl⟩
    rw [show w9.drew.heap.size = w9.heap.size from rfl] at HX11 HS11
    have hEA := (HE9.out.drew.below HB11.out).setPol hT (by decide) hP hpb htg
    have hvz0 : a.A.tg vb = 0 := by rw [← hvb]; exact HE9.out.pol.ok.hi _ HE9.out.lim
    have hv0 : A'.tg vb = 0 := by rw [htg vb (by rw [← hvb]; have := HS11.out; omega)]; exact hvz0
    have hage : w9.heap.size ≤ vb := by rw [← hvb]; exact Nat.le_refl _
    have hlz : rb < W11.heap.size := Nat.lt_of_lt_of_le (Array.getElem?_eq_some_iff.1 R9.out).1 (by have := HS11.out; omega)
    have hlq : w.heap.size ≤ W11.heap.size := Nat.le_trans T9.out.size (by have := HS11.out; omega)
    rw [hvb] at HX11
    rw [hvb]
    have hst := box_store (t := 35) (x := #[.int .i64 sq, .int .i64 (r : Nat), .int .i64 cl, .int .i64 (-1), .bool bo, .bool bf]) (hT.keep HX11.out (by rw [hvz0]; decide)) hvt (by kernel_rfl) hz6
    have HBX := Lib.hid (box_whole (cs := #[.int .i64 sq, .int .i64 (r : Nat), .int .i64 cl, .int .i64 (-1), .bool bo, .bool bf]) (hT.keep HX11.out (by rw [hvz0]; decide)) hz6.symm)
    refine wpAnyH_ready (rs := [12]) (by kernel_rfl) (by simp) ?_
    refine AllReadyH.cons rfl (fun K hK => ?_) AllReadyH.nil
    refine step_store 9 57 35 _ _ _ hst rfl rfl ?_
    refine hK.out _ _ (hHeld.fresh hage _ _) (fun hHeld => ?_)
    clear hK K
    refine wpAnyH_done (by kernel_rfl) ?_ _
  all_goals
    try simp only [Act.put, List.setIfInBounds_toArray, List.set_cons_zero, List.set_cons_succ]
    have HE12 := Lib.hid (hEA.fresh (x := vb) hv0 (#[.int .i64 sq, .int .i64 (r : Nat), .int .i64 cl, .int .i64 (-1), .bool bo, .bool bf] : Array Value).toList 0)
    have hr0 : A'.tg rb = 0 := by rw [htg rb hlz]; exact hz
    have hag : ∀ k, k < w.heap.size → A'.tg k = a.A.tg k := fun k hk => htg k (Nat.lt_of_lt_of_le hk hlq)
    have V12 := HBX
    have RB12 := Lib.hid (hHeld.keep R9.out (by rw [hz]; decide))
    have T12 := Lib.hid (T9.out.trans (hHeld.sub (js := [1, 3, 4, 5, 6, 7, 8, 9, 10]) (by simp)))
    have HPA := Lib.hid hpb
    have HRR := Lib.hid hR
    clear hHeld hEA hP hT hR htg HBX HX11 HB11 HS11 hst HE9 T9 R9 D9 X9 HL9 HAR
    generalize World.setCells _ vb 0 _ = W12 at *
    have c1 := cells_of_row V12.out 1 _ rfl
    by_cases h0 : r = 0
    case' pos =>
      have h0i : (r : Int) = 0 := by omega
      have HFA : Hid (adN (adN (adN (adN N 0 1) 2 1) 6 n) 3 1 = frA (adN (adN (adN N 0 1) 2 1) 6 n) r) := Lib.hid (if_pos h0).symm
      clear h0
      go_wp2_with fail
      refine (eng_add3 HE12.out).mono ?_
      rintro e W13 ⟨rfl, he, ht⟩
      have HE13 : Hid (Eng W13 { a with A := A' } F S' now (frA (adN (adN (adN N 0 1) 2 1) 6 n) r) nx) := Lib.hid (by rw [← HFA.out]; exact he)
      have V13 := Lib.hid (ht.keep V12.out (by show A'.tg vb ∉ _; rw [hv0]; decide))
      have RB13 := Lib.hid (ht.keep RB12.out (by show A'.tg rb ∉ _; rw [hr0]; decide))
      have T13 := Lib.hid (T12.out.trans2 (ht.sub (js := [1, 3, 4, 5, 6, 7, 8, 9, 10]) (by simp)) hag)
      clear he ht HE12 V12 RB12 T12
    case' neg =>
      have h0i : ¬ (r : Int) = 0 := by omega
      have HFA : Hid (adN (adN (adN (adN (adN N 0 1) 2 1) 6 n) 5 1) (15 + r) 1 = frA (adN (adN (adN N 0 1) 2 1) 6 n) r) := Lib.hid (if_neg h0).symm
      clear h0
      go_wp2_with fail
      refine (eng_drop r HE12.out hr).mono ?_
      rintro e W13 ⟨rfl, he, ht⟩
      have HE13 : Hid (Eng W13 { a with A := A' } F S' now (frA (adN (adN (adN N 0 1) 2 1) 6 n) r) nx) := Lib.hid (by rw [← HFA.out]; exact he)
      have V13 := Lib.hid (ht.keep V12.out (by show A'.tg vb ∉ _; rw [hv0]; decide))
      have RB13 := Lib.hid (ht.keep RB12.out (by show A'.tg rb ∉ _; rw [hr0]; decide))
      have T13 := Lib.hid (T12.out.trans2 (ht.sub (js := [1, 3, 4, 5, 6, 7, 8, 9, 10]) (by simp)) hag)
      clear he ht HE12 V12 RB12 T12
    all_goals
      clear c1 h0i HFA
      have c3 := cells_of_row V13.out 3 _ rfl
      have c4 := cells_of_row V13.out 4 _ rfl
      by_cases hbo : bo = true
      case' neg =>
        have hbf : bo = false := by simpa using hbo
        clear hbo
        rw [hbf] at c4
        go_upto_region 20 with (fail)
        have HE14 : Hid (Eng W13 { a with A := A' } F S' now (frB (frA (adN (adN (adN N 0 1) 2 1) 6 n) r) 8 bo) nx) := Lib.hid (by rw [hbf]; exact HE13.out)
        have V14 := V13
        have RB14 := RB13
        have T14 := T13
        clear HE13 V13 RB13 T13 c3 c4 hbf
        generalize W13 = W14 at *
      case' pos =>
        rw [hbo] at c4
        go_wp2_with fail
        refine (eng_add8 HE13.out).mono ?_
        rintro e W14 ⟨rfl, he, ht⟩
        have HE14 : Hid (Eng W14 { a with A := A' } F S' now (frB (frA (adN (adN (adN N 0 1) 2 1) 6 n) r) 8 bo) nx) := Lib.hid (by rw [hbo]; exact he)
        have V14 := Lib.hid (ht.keep V13.out (by show A'.tg vb ∉ _; rw [hv0]; decide))
        have RB14 := Lib.hid (ht.keep RB13.out (by show A'.tg rb ∉ _; rw [hr0]; decide))
        have T14 := Lib.hid (T13.out.trans2 (ht.sub (js := [1, 3, 4, 5, 6, 7, 8, 9, 10]) (by simp)) hag)
        clear he ht HE13 V13 RB13 T13
        clear c3 c4 hbo
      all_goals
        have c5 := cells_of_row V14.out 5 _ rfl
        by_cases hbb : bf = true
        case' neg =>
          have hbf : bf = false := by simpa using hbb
          clear hbb
          rw [hbf] at c5
          go_upto_region 22 with (fail)
          have HE15 : Hid (Eng W14 { a with A := A' } F S' now (frN N n r bo bf) nx) := Lib.hid (by rw [hbf]; exact HE14.out)
          have V15 := V14
          have RB15 := RB14
          have T15 := T14
          clear HE14 V14 RB14 T14 c5 hbf
          generalize W14 = W15 at *
        case' pos =>
          rw [hbb] at c5
          go_wp2_with fail
          refine (eng_add9 HE14.out).mono ?_
          rintro e W15 ⟨rfl, he, ht⟩
          have HE15 : Hid (Eng W15 { a with A := A' } F S' now (frN N n r bo bf) nx) := Lib.hid (by rw [hbb]; exact he)
          have V15 := Lib.hid (ht.keep V14.out (by show A'.tg vb ∉ _; rw [hv0]; decide))
          have RB15 := Lib.hid (ht.keep RB14.out (by show A'.tg rb ∉ _; rw [hr0]; decide))
          have T15 := Lib.hid (T14.out.trans2 (ht.sub (js := [1, 3, 4, 5, 6, 7, 8, 9, 10]) (by simp)) hag)
          clear he ht HE14 V14 RB14 T14
          clear c5 hbb
        all_goals
          have hld := box_load (t := 35) V15.out _ Tryz.underlying35 rfl hvt
          have hst := box_store (t := 35) (x := #[.int .i64 sq, .int .i64 (r : Nat), .int .i64 cl, .int .i64 (-1), .bool bo, .bool bf]) RB15.out hvt (by kernel_rfl) hz6
          have hbox := Lib.hid (box_whole (cs := #[.int .i64 sq, .int .i64 (r : Nat), .int .i64 cl, .int .i64 (-1), .bool bo, .bool bf]) RB15.out hz6.symm)
          have HEJ := Lib.hid (HE15.out.fresh (x := rb) hr0 (#[.int .i64 sq, .int .i64 (r : Nat), .int .i64 cl, .int .i64 (-1), .bool bo, .bool bf] : Array Value).toList 0)
          have TJ : Hid (Tur a.A.tg [1, 3, 4, 5, 6, 7, 8, 9, 10] w (World.setCells W15 rb 0 (#[.int .i64 sq, .int .i64 (r : Nat), .int .i64 cl, .int .i64 (-1), .bool bo, .bool bf] : Array Value).toList)) := Lib.hid (T15.out.trans2 (f := a.A.tg) (g := fun k => if k = rb then 10 else a.A.tg k) (Tur.of_two (Two.setCells (g := rb) (h := rb) (.inl rfl) _ 0 (Two.refl _ _ _)) (by simp) (by simp)) (fun k hk => if_neg (by omega)))
          go_wp2_with (first | ((with_reducible refine arm_load 86 9 35 _ _ hld ?_ ?_); rfl) | ((with_reducible refine arm_store 6 86 35 _ _ _ hst ?_ ?_ ?_); rfl; rfl))
          refine bodyPost_ret (results_cell_row rfl _ _ _ _ _ _ _ rfl hbox.out Tryz.underlying35 rfl hvt) rfl ?_
          exact HQ.out _ _ ⟨A', S', rfl, HEJ.out, HRR.out, TJ.out, HPA.out, hag⟩
end
end Go.Proofs.YtpanmfdbdgecaaaGreat.C

namespace Go.Proofs.YtpanmfdbdgecaaaGreat.C
open Go.RowKit
set_option linter.unusedVariables false
section
variable {w : World} {a : EAd} {F : PCf} {S : PSt} {now nx : Int} {N : Nat → Int}
set_option maxRecDepth 100000 in
set_option maxHeartbeats 8000000 in
theorem frame_any (g o n c : Nat) (B : Nat → Nat) (dr : Array Value) (hdr : dr.size = 2) (h : Eng w a F S now N nx) (hf : FrAt w g o n c B) (hg : a.A.tg g = 0) (hu : UdpB B n) (sq : Int) (R : Nat → Int → Int → PAd → PSt → Prop)
    (harr : ∀ w', Pol w' a.A F S → Calls Tryz.prog 20 #[.pointer (some ⟨a.A.pb, 0, none⟩), .agg (pktB B n), .int .i64 now, .agg dr] w' fun e w'' => ∃ A' S' r cl vic, e = .returned (.agg #[.int .i64 sq, .int .i64 (r : Nat), .int .i64 cl, .int .i64 vic, .bool false, .bool false]) ∧ r < 16 ∧ Pol w'' A' F S' ∧ R r cl vic A' S' ∧ Tur a.A.tg [1, 3, 4, 5, 6, 7, 8, 9] w' w'' ∧ A'.pb = a.A.pb ∧ ∀ k, k < w'.heap.size → A'.tg k = a.A.tg k) :
    Calls Tryz.prog 11 #[.pointer (some ⟨a.eb, 0, none⟩), .slice (some ⟨g, o, none⟩) n c, .agg dr] w fun e w' => ∃ A' S' r cl vic N', e = .returned (.agg #[.int .i64 sq, .int .i64 (r : Nat), .int .i64 cl, .int .i64 vic, .bool false, .bool false]) ∧ Eng w' { a with A := A' } F S' now N' nx ∧ R r cl vic A' S' ∧ Tur a.A.tg [1, 3, 4, 5, 6, 7, 8, 9, 10] w w' ∧ A'.pb = a.A.pb ∧ ∀ k, k < w.heap.size → A'.tg k = a.A.tg k := by
  have CA := Lib.hid (fun w' (q : Eng w' a F S now N nx) => eng_ahead q)
  have CF := Lib.hid (fun w' (q : FrAt w' g o n c B) => frame_udp g o n c B w' q hu)
  have HAR := Lib.hid harr
  have hpk : Pk (pktB B n) := pktX_pk _ _ _ _ _ _ _ _ _ _ _
  have h45 : (pktB B n)[45]? = some (.int .i64 (n : Nat)) := by kernel_rfl
  obtain ⟨x, hx⟩ : ∃ z, pktB B n = z := ⟨_, rfl⟩
  rw [hx] at CF HAR hpk h45
  have HPK := Lib.hid hpk
  have H45 := Lib.hid h45
  have HU := Lib.hid hu
  obtain ⟨VZ0, hVZ⟩ : ∃ z, VZ = z := ⟨_, rfl⟩
  have hvz := vz_zero
  rw [hVZ] at hvz
  have HVZ := Lib.hid hvz
  have HVE := Lib.hid hVZ
  have hpz := pz_zero
  have hps := pk_size
  have hp46 := pz_size46
  generalize PZ = Z at *
  have HPZ := Lib.hid hpz
  have HPS := Lib.hid hps
  have HP46 := Lib.hid hp46
  have HDR := Lib.hid hdr
  have HE := Lib.hid h
  have HF := Lib.hid hf
  have hlim := h.lim
  clear h hvz hVZ hpz hps hp46 hf hu harr hpk h45 hx hdr
  refine calls_hide fun Q HQ => ?_
  go_enter Tryz.func11, Tryz.ntmps11
  go_upto_region 3 with (first | ((with_reducible refine arm_box 5 2 41 dr ?_ ?_); rfl; intro w1 HB1 HX1 HS1) | ((with_reducible refine arm_alloc 6 35 VZ0 6 HVZ.out ?_); intro w2 HB2 HX2 HS2))
  have HE2 := Lib.hid ((HE.out.below HB1.out).below HB2.out)
  have F2 := Lib.hid ((HF.out.below HF.out.blk HB1.out (Nat.le_refl _)).below (Nat.lt_of_lt_of_le HF.out.blk HB1.out.size) HB2.out (Nat.le_refl _))
  have T2 : Hid (Tur a.A.tg [1, 3, 4, 5, 6, 7, 8, 9, 10] w w2) := Lib.hid ((Tur.of_below HB1.out).below HB2.out)
  have R2 := Lib.hid HX2.out
  have D2 := Lib.hid (keep_block HB2.out HX1.out)
  have hz : a.A.tg w1.heap.size = 0 := HE.out.pol.ok.hi _ (Nat.le_trans hlim HB1.out.size)
  have hzd : a.A.tg w.heap.size = 0 := HE.out.pol.ok.hi _ hlim
  have hrb : w.heap.size ≤ w1.heap.size := HB1.out.size
  generalize w1.heap.size = rb at *
  clear HB1 HX1 HS1 HB2 HX2 HS2 HF
  go_wp2_with fail
  refine (CA.out _ HE2.out).mono ?_
  rintro e w3 ⟨rfl, rfl⟩
  go_wp2_with fail
  refine (eng_add0 HE2.out).mono ?_
  rintro e w4 ⟨rfl, h4, t4⟩
  have HE4 := Lib.hid h4
  have F4 := Lib.hid (F2.out.tur t4 (by rw [hg]; decide))
  have T4 := Lib.hid (T2.out.trans (t4.sub (js := [1, 3, 4, 5, 6, 7, 8, 9, 10]) (by simp)))
  have R4 := Lib.hid (t4.keep R2.out (by rw [hz]; decide))
  have D4 := Lib.hid (t4.keep D2.out (by rw [hzd]; decide))
  clear h4 t4 HE2 T2 R2 D2 F2 CA
  go_wp2_with fail
  refine (CF.out _ F4.out).mono ?_
  rintro e w5 ⟨rfl, hB⟩
  have HE5 := Lib.hid (HE4.out.below hB)
  have T5 := Lib.hid (T4.out.below hB)
  have R5 := Lib.hid (keep_block hB R4.out)
  have D5 := Lib.hid (keep_block hB D4.out)
  clear hB HE4 T4 R4 D4 F4 CF
  have hxs : (Tryz.prog.info? 68).map (·.size) = some x.size := by rw [HPK.out.size, ← HP46.out]; exact HPS.out
  go_upto_region 6 with (first | ((with_reducible refine arm_alloc 7 68 Z 46 HPZ.out ?_); intro w6 HB6 HX6 HS6; have hst := box_store (t := 68) (x := x) HX6.out hxs HPK.out.one (HP46.out.trans HPK.out.size.symm); have hbx6 := Lib.hid (box_whole (cs := x) HX6.out (HPK.out.size.trans HP46.out.symm)); have hf6 := Lib.hid (below_setCells (b := w5.heap.size) (Nat.le_refl _) x.toList 0 HB6.out)) | ((with_reducible refine arm_store 7 22 68 _ _ _ hst ?_ ?_ ?_); rfl; rfl))
  have HE6 := Lib.hid (HE5.out.below hf6.out)
  have T6 := Lib.hid (T5.out.below hf6.out)
  have R6 := Lib.hid (keep_block hf6.out R5.out)
  have D6 := Lib.hid (keep_block hf6.out D5.out)
  have X6 := Lib.hid hbx6.out
  have hzx : a.A.tg w5.heap.size = 0 := HE5.out.pol.ok.hi _ HE5.out.lim
  have hxb : w.heap.size ≤ w5.heap.size := T5.out.size
  clear hst HX6 HB6 HS6 hf6 HE5 T5 R5 D5 hbx6
  generalize World.setCells w6 _ 0 x.toList = w7 at *
  generalize w5.heap.size = xb at *
  go_wp2_with fail
  refine (eng_add2 HE6.out).mono ?_
  rintro e w8 ⟨rfl, h8, t8⟩
  have HE8 := Lib.hid h8
  have T8 := Lib.hid (T6.out.trans (t8.sub (js := [1, 3, 4, 5, 6, 7, 8, 9, 10]) (by simp)))
  have R8 := Lib.hid (t8.keep R6.out (by rw [hz]; decide))
  have D8 := Lib.hid (t8.keep D6.out (by rw [hzd]; decide))
  have X8 := Lib.hid (t8.keep X6.out (by rw [hzx]; decide))
  clear h8 t8 HE6 T6 R6 D6 X6
  have HL8 : Hid (∀ w', Tur a.A.tg [10] w8 w' → w'.cell? ⟨xb, 45, none⟩ = some (.int .i64 (n : Nat))) := Lib.hid fun w' q => cells_of_row (q.keep X8.out (by rw [hzx]; decide)) 45 _ H45.out
  go_wp2_with fail
  refine wp_region_held_drew (S := Tur a.A.tg [10] w8) (by kernel_rfl) (Tur.refl _ _ _).drew (fun hHeld => ?_)
  refine wpAnyH_take (i := 0) (oi := ⟨some 41, _, _, _, _, _⟩) (v := ?_) rfl (by kernel_rfl) (by kernel_rfl) (by kernel_rfl) (fun _ _ _ h => h) (Or.inl ⟨by rfl, ?_⟩) hHeld ?_
  rotate_left
  · intro w hSw
    go_simp
    try with_reducible rfl
  try simp only [Act.put, List.setIfInBounds_toArray, List.set_cons_zero, List.set_cons_succ]
  refine wpAnyH_take (i := 1) (oi := ⟨some 42, _, _, _, _, _⟩) (v := ?_) rfl (by kernel_rfl) (by kernel_rfl) (by kernel_rfl) (fun _ _ _ h => h) (Or.inl ⟨by rfl, ?_⟩) hHeld ?_
  rotate_left
  · intro w hSw
    go_simp
    try with_reducible rfl
  try simp only [Act.put, List.setIfInBounds_toArray, List.set_cons_zero, List.set_cons_succ]
  refine wpAnyH_take (i := 2) (oi := ⟨some 43, _, _, _, _, _⟩) (v := ?_) rfl (by kernel_rfl) (by kernel_rfl) (by kernel_rfl) (fun _ _ _ h => h) (Or.inl ⟨by rfl, ?_⟩) hHeld ?_
  rotate_left
  · intro w hSw
    go_simp
    try with_reducible rfl
  try simp only [Act.put, List.setIfInBounds_toArray, List.set_cons_zero, List.set_cons_succ]
  refine wpAnyH_take (i := 3) (oi := ⟨some 44, _, _, _, _, _⟩) (v := ?_) rfl (by kernel_rfl) (by kernel_rfl) (by kernel_rfl) (fun _ _ _ h => h) (Or.inl ⟨by rfl, ?_⟩) hHeld ?_
  rotate_left
  · intro w hSw
    go_simp
    try with_reducible rfl
  try simp only [Act.put, List.setIfInBounds_toArray, List.set_cons_zero, List.set_cons_succ]
  refine wpAnyH_take (i := 4) (oi := ⟨some 45, _, _, _, _, _⟩) (v := ?_) rfl (by kernel_rfl) (by kernel_rfl) (by kernel_rfl) (fun _ _ _ h => h) (Or.inl ⟨by rfl, ?_⟩) hHeld ?_
  rotate_left
  · intro w hSw
    obtain k0 := HL8.out w hSw
    go_simp
    try with_reducible rfl
  try simp only [Act.put, List.setIfInBounds_toArray, List.set_cons_zero, List.set_cons_succ]
  refine wpAnyH_ready (rs := [5]) (by kernel_rfl) (by simp) ?_
  refine AllReadyH.cons rfl (fun K hK => ?_) AllReadyH.nil
  go_simp
  go_wp2_with (go_at_call 29; go_must (refine (eng_add6 n HE8.out.drew).mono ?_; rintro e w5 ⟨rfl, h5, t5⟩))
  refine hK.out _ _ (hHeld.trans t5) (fun hHeld => ?_)
  clear hK K
  refine wpAnyH_done (by kernel_rfl) ?_ _
  have HE9 := Lib.hid h5
  have T9 := Lib.hid (T8.out.trans (hHeld.sub (js := [1, 3, 4, 5, 6, 7, 8, 9, 10]) (by simp)))
  have R9 := Lib.hid (hHeld.keep R8.out (by rw [hz]; decide))
  have D9 := Lib.hid (hHeld.keep D8.out (by rw [hzd]; decide))
  have X9 := Lib.hid (hHeld.keep X8.out (by rw [hzx]; decide))
  clear hHeld h5 t5 HL8 HE8 T8 R8 D8 X8
  generalize w5 = w9 at *
  have hdt : (Tryz.prog.info? 41).map (·.size) = some dr.size := by rw [HDR.out]; kernel_rfl
  have HL9 : Hid (∀ w', Tur a.A.tg [1, 3, 4, 5, 6, 7, 8, 9] w9 w' → (w'.cell? ⟨a.eb, 1, none⟩ = some (.pointer (some ⟨a.A.pb, 0, none⟩)) ∧ w'.cell? ⟨a.eb, 2, none⟩ = some (.int .i64 now)) ∧ (Instr.loadAt 68 (.pointer (some ⟨xb, 0, none⟩))).run Tryz.prog w' = .ok (.agg x) w' ∧ (Instr.loadAt 41 (.pointer (some ⟨w.heap.size, 0, none⟩))).run Tryz.prog w' = .ok (.agg dr) w') := Lib.hid fun w' q => by
    have he := (HE9.out.en.tur q (by rw [HE9.out.tags.1]; decide)).cells
    exact ⟨⟨he.2.1, he.2.2.1⟩, pkt_load (q.keep X9.out (by rw [hzx]; decide)) HPK.out, box_load (t := 41) (q.keep D9.out (by rw [hzd]; decide)) _ Tryz.underlying41 rfl hdt⟩
  have hvt : (Tryz.prog.info? 35).map (·.size) = some 6 := by kernel_rfl
  have hz6 : VZ0.size = 6 := by rw [← HVE.out]; rfl
  go_wp2_with fail
  refine wp_region_held_drew (S := Tur a.A.tg [1, 3, 4, 5, 6, 7, 8, 9] w9) (by kernel_rfl) (Tur.refl _ _ _).drew (fun hHeld => ?_)
  refine wpAnyH_take (i := 0) (oi := ⟨some 47, _, _, _, _, _⟩) (v := ?_) rfl (by kernel_rfl) (by kernel_rfl) (by kernel_rfl) (fun _ _ _ h => h) (Or.inl ⟨by rfl, ?_⟩) hHeld ?_
  rotate_left
  · intro w hSw
    go_simp
    try with_reducible rfl
  try simp only [Act.put, List.setIfInBounds_toArray, List.set_cons_zero, List.set_cons_succ]
  refine wpAnyH_take (i := 1) (oi := ⟨some 48, _, _, _, _, _⟩) (v := ?_) rfl (by kernel_rfl) (by kernel_rfl) (by kernel_rfl) (fun _ _ _ h => h) (Or.inl ⟨by rfl, ?_⟩) hHeld ?_
  rotate_left
  · intro w hSw
    go_simp
    try with_reducible rfl
  try simp only [Act.put, List.setIfInBounds_toArray, List.set_cons_zero, List.set_cons_succ]
  refine wpAnyH_take (i := 2) (oi := ⟨some 49, _, _, _, _, _⟩) (v := ?_) rfl (by kernel_rfl) (by kernel_rfl) (by kernel_rfl) (fun _ _ _ h => h) (Or.inl ⟨by rfl, ?_⟩) hHeld ?_
  rotate_left
  · intro w hSw
    go_simp
    try with_reducible rfl
  try simp only [Act.put, List.setIfInBounds_toArray, List.set_cons_zero, List.set_cons_succ]
  refine wpAnyH_take (i := 3) (oi := ⟨some 50, _, _, _, _, _⟩) (v := ?_) rfl (by kernel_rfl) (by kernel_rfl) (by kernel_rfl) (fun _ _ _ h => h) (Or.inl ⟨by rfl, ?_⟩) hHeld ?_
  rotate_left
  · intro w hSw
    obtain ⟨⟨k0, k1⟩, _⟩ := HL9.out w hSw
    go_simp
    try with_reducible rfl
  try simp only [Act.put, List.setIfInBounds_toArray, List.set_cons_zero, List.set_cons_succ]
  refine wpAnyH_take (i := 4) (oi := ⟨some 51, _, _, _, _, _⟩) (v := .agg x) rfl (by kernel_rfl) (by kernel_rfl) (by kernel_rfl) (fun _ _ _ h => h) (Or.inl ⟨by rfl, fun w hSw => exec_load rfl (HL9.out w hSw).2.1⟩) hHeld ?_
  try simp only [Act.put, List.setIfInBounds_toArray, List.set_cons_zero, List.set_cons_succ]
  refine wpAnyH_take (i := 5) (oi := ⟨some 52, _, _, _, _, _⟩) (v := ?_) rfl (by kernel_rfl) (by kernel_rfl) (by kernel_rfl) (fun _ _ _ h => h) (Or.inl ⟨by rfl, ?_⟩) hHeld ?_
  rotate_left
  · intro w hSw
    go_simp
    try with_reducible rfl
  try simp only [Act.put, List.setIfInBounds_toArray, List.set_cons_zero, List.set_cons_succ]
  refine wpAnyH_take (i := 6) (oi := ⟨some 53, _, _, _, _, _⟩) (v := ?_) rfl (by kernel_rfl) (by kernel_rfl) (by kernel_rfl) (fun _ _ _ h => h) (Or.inl ⟨by rfl, ?_⟩) hHeld ?_
  rotate_left
  · intro w hSw
    go_simp
    try with_reducible rfl
  try simp only [Act.put, List.setIfInBounds_toArray, List.set_cons_zero, List.set_cons_succ]
  refine wpAnyH_take (i := 7) (oi := ⟨some 54, _, _, _, _, _⟩) (v := ?_) rfl (by kernel_rfl) (by kernel_rfl) (by kernel_rfl) (fun _ _ _ h => h) (Or.inl ⟨by rfl, ?_⟩) hHeld ?_
  rotate_left
  · intro w hSw
    go_simp
    try with_reducible rfl
  try simp only [Act.put, List.setIfInBounds_toArray, List.set_cons_zero, List.set_cons_succ]
  refine wpAnyH_take (i := 8) (oi := ⟨some 55, _, _, _, _, _⟩) (v := ?_) rfl (by kernel_rfl) (by kernel_rfl) (by kernel_rfl) (fun _ _ _ h => h) (Or.inl ⟨by rfl, ?_⟩) hHeld ?_
  rotate_left
  · intro w hSw
    obtain ⟨⟨k0, k1⟩, _⟩ := HL9.out w hSw
    go_simp
    try with_reducible rfl
  try simp only [Act.put, List.setIfInBounds_toArray, List.set_cons_zero, List.set_cons_succ]
  refine wpAnyH_take (i := 9) (oi := ⟨some 56, _, _, _, _, _⟩) (v := .agg dr) rfl (by kernel_rfl) (by kernel_rfl) (by kernel_rfl) (fun _ _ _ h => h) (Or.inl ⟨by rfl, fun w hSw => exec_load rfl (HL9.out w hSw).2.2⟩) hHeld ?_
  try simp only [Act.put, List.setIfInBounds_toArray, List.set_cons_zero, List.set_cons_succ]
  refine wpAnyH_ready (rs := [10, 11]) (by kernel_rfl) (by simp) ?_
  refine AllReadyH.cons rfl (fun K hK => ?ordA) (AllReadyH.cons rfl (fun K hK => ?ordB) AllReadyH.nil)
  case' ordA =>
    go_simp
    go_wp2_with (go_at_call 20; go_must (refine (HAR.out _ HE9.out.drew.pol).mono ?_; rintro e w10 ⟨A', S', r, cl, vic, rfl, hr, hP, hR, hT, hpb, htg⟩))
    refine hK.out _ _ (hHeld.trans hT) (fun hHeld => ?_)
    clear hK K
    refine wpAnyH_ready (rs := [11]) (by kernel_rfl) (by simp) ?_
    refine AllReadyH.cons rfl (fun K hK => ?_) AllReadyH.nil
    refine step_alloc 9 35 VZ0 6 HVZ.out ?_; intro W11 HB11 HX11 HS11
    refine hK.out _ _ (hHeld.below HB11.out) (fun hHeld => ?_)
    clear hK K
    obtain ⟨vb, hvb⟩ : ∃ z, w10.heap.size = z := ⟨_, rfl⟩
    have hEA := (HE9.out.drew.setPol hT (by decide) hP hpb htg).below HB11.out
    have hv0 : A'.tg vb = 0 := by rw [← hvb]; exact hP.ok.hi _ hP.lim
    have hage : w9.heap.size ≤ vb := by rw [← hvb]; exact Nat.le_trans hT.size (Nat.le_refl _)
    have hlz : rb < w9.drew.heap.size := (Array.getElem?_eq_some_iff.1 R9.out).1
    have hlq : w.heap.size ≤ w9.drew.heap.size := T9.out.size
    rw [hvb] at HX11
    rw [hvb]
    have hst := box_store (t := 35) (x := #[.int .i64 sq, .int .i64 (r : Nat), .int .i64 cl, .int .i64 vic, .bool false, .bool false]) HX11.out hvt (by kernel_rfl) hz6
    have HBX := Lib.hid (box_whole (cs := #[.int .i64 sq, .int .i64 (r : Nat), .int .i64 cl, .int .i64 vic, .bool false, .bool false]) HX11.out hz6.symm)
    refine wpAnyH_ready (rs := [12]) (by kernel_rfl) (by simp) ?_
    refine AllReadyH.cons rfl (fun K hK => ?_) AllReadyH.nil
    refine step_store 9 57 35 _ _ _ hst rfl rfl ?_
    refine hK.out _ _ (hHeld.fresh hage _ _) (fun hHeld => ?_)
    clear hK K
    refine wpAnyH_done (by kernel_rfl) ?_ _
  case' ordB =>
    refine step_alloc 9 35 VZ0 6 HVZ.out ?_; intro W11 HB11 HX11 HS11
    refine hK.out _ _ (hHeld.below HB11.out) (fun hHeld => ?_)
    clear hK K
    refine wpAnyH_ready (rs := [10]) (by kernel_rfl) (by simp) ?_
    refine AllReadyH.cons rfl (fun K hK => ?_) AllReadyH.nil
    go_simp
    go_wp2_with (go_at_call 20; go_must (refine (HAR.out _ (HE9.out.drew.pol.below HB11.out)).mono ?_; rintro e w10 ⟨A', S', r, cl, vic, rfl, hr, hP, hR, hT, hpb, htg⟩))
    refine hK.out _ _ (hHeld.trans hT) (fun hHeld => ?_)
    clear hK K
    obtain ⟨vb, hvb⟩ : ∃ z, w9.heap.size = z := ⟨_, rfl⟩
    rw [show w9.drew.heap.size = w9.heap.size from rfl] at HX11 HS11
    have hEA := (HE9.out.drew.below HB11.out).setPol hT (by decide) hP hpb htg
    have hvz0 : a.A.tg vb = 0 := by rw [← hvb]; exact HE9.out.pol.ok.hi _ HE9.out.lim
    have hv0 : A'.tg vb = 0 := by rw [htg vb (by rw [← hvb]; have := HS11.out; omega)]; exact hvz0
    have hage : w9.heap.size ≤ vb := by rw [← hvb]; exact Nat.le_refl _
    have hlz : rb < W11.heap.size := Nat.lt_of_lt_of_le (Array.getElem?_eq_some_iff.1 R9.out).1 (by have := HS11.out; omega)
    have hlq : w.heap.size ≤ W11.heap.size := Nat.le_trans T9.out.size (by have := HS11.out; omega)
    rw [hvb] at HX11
    rw [hvb]
    have hst := box_store (t := 35) (x := #[.int .i64 sq, .int .i64 (r : Nat), .int .i64 cl, .int .i64 vic, .bool false, .bool false]) (hT.keep HX11.out (by rw [hvz0]; decide)) hvt (by kernel_rfl) hz6
    have HBX := Lib.hid (box_whole (cs := #[.int .i64 sq, .int .i64 (r : Nat), .int .i64 cl, .int .i64 vic, .bool false, .bool false]) (hT.keep HX11.out (by rw [hvz0]; decide)) hz6.symm)
    refine wpAnyH_ready (rs := [12]) (by kernel_rfl) (by simp) ?_
    refine AllReadyH.cons rfl (fun K hK => ?_) AllReadyH.nil
    refine step_store 9 57 35 _ _ _ hst rfl rfl ?_
    refine hK.out _ _ (hHeld.fresh hage _ _) (fun hHeld => ?_)
    clear hK K
    refine wpAnyH_done (by kernel_rfl) ?_ _
  all_goals
    try simp only [Act.put, List.setIfInBounds_toArray, List.set_cons_zero, List.set_cons_succ]
    have HE12 := Lib.hid (hEA.fresh (x := vb) hv0 (#[.int .i64 sq, .int .i64 (r : Nat), .int .i64 cl, .int .i64 vic, .bool false, .bool false] : Array Value).toList 0)
    have hr0 : A'.tg rb = 0 := by rw [htg rb hlz]; exact hz
    have hag : ∀ k, k < w.heap.size → A'.tg k = a.A.tg k := fun k hk => htg k (Nat.lt_of_lt_of_le hk hlq)
    have V12 := HBX
    have RB12 := Lib.hid (hHeld.keep R9.out (by rw [hz]; decide))
    have T12 := Lib.hid (T9.out.trans (hHeld.sub (js := [1, 3, 4, 5, 6, 7, 8, 9, 10]) (by simp)))
    have HPA := Lib.hid hpb
    have HRR := Lib.hid hR
    have HR16 := Lib.hid hr
    clear hr
    clear hHeld hEA hP hT hR htg HBX HX11 HB11 HS11 hst HE9 T9 R9 D9 X9 HL9 HAR
    generalize World.setCells _ vb 0 _ = W12 at *
    have c1 := cells_of_row V12.out 1 _ rfl
    by_cases h0 : r = 0
    case' pos =>
      have h0i : (r : Int) = 0 := by omega
      have HFA : Hid (adN (adN (adN (adN N 0 1) 2 1) 6 n) 3 1 = frA (adN (adN (adN N 0 1) 2 1) 6 n) r) := Lib.hid (if_pos h0).symm
      clear h0
      go_wp2_with fail
      refine (eng_add3 HE12.out).mono ?_
      rintro e W13 ⟨rfl, he, ht⟩
      have HE13 : Hid (Eng W13 { a with A := A' } F S' now (frA (adN (adN (adN N 0 1) 2 1) 6 n) r) nx) := Lib.hid (by rw [← HFA.out]; exact he)
      have V13 := Lib.hid (ht.keep V12.out (by show A'.tg vb ∉ _; rw [hv0]; decide))
      have RB13 := Lib.hid (ht.keep RB12.out (by show A'.tg rb ∉ _; rw [hr0]; decide))
      have T13 := Lib.hid (T12.out.trans2 (ht.sub (js := [1, 3, 4, 5, 6, 7, 8, 9, 10]) (by simp)) hag)
      clear he ht HE12 V12 RB12 T12
    case' neg =>
      have h0i : ¬ (r : Int) = 0 := by omega
      have HFA : Hid (adN (adN (adN (adN (adN N 0 1) 2 1) 6 n) 5 1) (15 + r) 1 = frA (adN (adN (adN N 0 1) 2 1) 6 n) r) := Lib.hid (if_neg h0).symm
      clear h0
      go_wp2_with fail
      refine (eng_drop r HE12.out HR16.out).mono ?_
      rintro e W13 ⟨rfl, he, ht⟩
      have HE13 : Hid (Eng W13 { a with A := A' } F S' now (frA (adN (adN (adN N 0 1) 2 1) 6 n) r) nx) := Lib.hid (by rw [← HFA.out]; exact he)
      have V13 := Lib.hid (ht.keep V12.out (by show A'.tg vb ∉ _; rw [hv0]; decide))
      have RB13 := Lib.hid (ht.keep RB12.out (by show A'.tg rb ∉ _; rw [hr0]; decide))
      have T13 := Lib.hid (T12.out.trans2 (ht.sub (js := [1, 3, 4, 5, 6, 7, 8, 9, 10]) (by simp)) hag)
      clear he ht HE12 V12 RB12 T12
    all_goals
      clear c1 h0i HFA
      have c3 := cells_of_row V13.out 3 _ rfl
      have c4 := cells_of_row V13.out 4 _ rfl
      have c5 := cells_of_row V13.out 5 _ rfl
      by_cases hvi : vic = -1
      case' pos =>
        have hvb1 : (vic == -1) = true := by rw [hvi]; rfl
        have hvb2 : (vic != -1) = false := by rw [hvi]; rfl
        go_upto_region 22 with (fail)
        obtain ⟨N5, hN5⟩ : ∃ N5, frA (adN (adN (adN N 0 1) 2 1) 6 n) r = N5 := ⟨_, rfl⟩
        rw [hN5] at HE13
        have HE15 := HE13
        have V15 := V13
        have RB15 := RB13
        have T15 := T13
        clear HE13 V13 RB13 T13 c3 c4 c5 hvb1 hvb2 hN5 hvi
        generalize W13 = W15 at *
      case' neg =>
        have hvb1 : (vic == -1) = false := by simpa using hvi
        have hvb2 : (vic != -1) = true := by simpa using hvi
        go_wp2_with fail
        refine (eng_drop 11 HE13.out (by decide)).mono ?_
        rintro e W15 ⟨rfl, he, ht⟩
        obtain ⟨N5, hN5⟩ : ∃ N5, adN (adN (frA (adN (adN (adN N 0 1) 2 1) 6 n) r) 5 1) (15 + 11) 1 = N5 := ⟨_, rfl⟩
        rw [hN5] at he
        have HE15 := Lib.hid he
        have V15 := Lib.hid (ht.keep V13.out (by show A'.tg vb ∉ _; rw [hv0]; decide))
        have RB15 := Lib.hid (ht.keep RB13.out (by show A'.tg rb ∉ _; rw [hr0]; decide))
        have T15 := Lib.hid (T13.out.trans2 (ht.sub (js := [1, 3, 4, 5, 6, 7, 8, 9, 10]) (by simp)) hag)
        clear he ht HE13 V13 RB13 T13 c3 c4 c5 hvb1 hvb2 hN5
        have c4 := cells_of_row V15.out 4 _ rfl
        have c5 := cells_of_row V15.out 5 _ rfl
        go_upto_region 22 with (fail)
        clear c4 c5 hvi
      all_goals
        have hld := box_load (t := 35) V15.out _ Tryz.underlying35 rfl hvt
        have hst := box_store (t := 35) (x := #[.int .i64 sq, .int .i64 (r : Nat), .int .i64 cl, .int .i64 vic, .bool false, .bool false]) RB15.out hvt (by kernel_rfl) hz6
        have hbox := Lib.hid (box_whole (cs := #[.int .i64 sq, .int .i64 (r : Nat), .int .i64 cl, .int .i64 vic, .bool false, .bool false]) RB15.out hz6.symm)
        have HEJ := Lib.hid (HE15.out.fresh (x := rb) hr0 (#[.int .i64 sq, .int .i64 (r : Nat), .int .i64 cl, .int .i64 vic, .bool false, .bool false] : Array Value).toList 0)
        have TJ : Hid (Tur a.A.tg [1, 3, 4, 5, 6, 7, 8, 9, 10] w (World.setCells W15 rb 0 (#[.int .i64 sq, .int .i64 (r : Nat), .int .i64 cl, .int .i64 vic, .bool false, .bool false] : Array Value).toList)) := Lib.hid (T15.out.trans2 (f := a.A.tg) (g := fun k => if k = rb then 10 else a.A.tg k) (Tur.of_two (Two.setCells (g := rb) (h := rb) (.inl rfl) _ 0 (Two.refl _ _ _)) (by simp) (by simp)) (fun k hk => if_neg (by omega)))
        go_wp2_with (first | ((with_reducible refine arm_load 86 9 35 _ _ hld ?_ ?_); rfl) | ((with_reducible refine arm_store 6 86 35 _ _ _ hst ?_ ?_ ?_); rfl; rfl))
        refine bodyPost_ret (results_cell_row rfl _ _ _ _ _ _ _ rfl hbox.out Tryz.underlying35 rfl hvt) rfl ?_
        exact HQ.out _ _ ⟨A', S', r, cl, vic, _, rfl, HEJ.out, HRR.out, TJ.out, HPA.out, hag⟩
end
end Go.Proofs.YtpanmfdbdgecaaaGreat.C

namespace Go.Proofs.YtpanmfdbdgecaaaGreat.C
open Go.RowKit
set_option linter.unusedVariables false
/-- Nobody is in it. -/
def emp (room : Nat) : List Plc := List.replicate (2 * room) plc0
theorem emp_len (room : Nat) : (emp room).length = 2 * room := by simp [emp]
theorem emp_at {room j : Nat} (h : j < 2 * room) : (emp room)[j]? = some plc0 := by simp [emp, h]
def spot0 (room p0 p1 p2 : Nat) : Nat := (pfH p0 p1 p2 % ((emp room).length : Nat)).toNat % (2 * room)
theorem spot0_lt {room : Nat} (h : 1 ≤ room) (p0 p1 p2 : Nat) : spot0 room p0 p1 p2 < 2 * room := Nat.mod_lt _ (by omega)
theorem at1_emp {room : Nat} (h : 1 ≤ room) (p0 p1 p2 : Nat) : at1 (emp room) p0 p1 p2 = (-1, (spot0 room p0 p1 p2 : Int)) := by
  have hl := emp_len room
  have hlt := spot0_lt h p0 p1 p2
  unfold at1
  obtain ⟨m, hm⟩ : ∃ m, (emp room).length = m + 1 := ⟨(emp room).length - 1, by omega⟩
  generalize hfr : (pfH p0 p1 p2 % ((emp room).length : Nat)).toNat = fr
  have hs : spot0 room p0 p1 p2 = fr % (2 * room) := by rw [← hfr]; rfl
  rw [hm, fnd, Nat.add_zero, hl, emp_at (by rw [← hs]; exact hlt)]
  simp [plc0, hs]
theorem tkn_emp (room : Nat) : tkn (emp room) = [] := by
  unfold tkn emp
  rw [List.filter_eq_nil_iff.2 (fun x hx => by obtain ⟨_, rfl⟩ := List.mem_replicate.1 hx; simp [plc0])]
  rfl
theorem qz_flat : Flat Tryz.prog 65 QZ := by
  have h : QZ = pfx 0 0 0 := by kernel_rfl
  rw [h]
  exact pfx_flat 0 0 0 (by decide) (by decide) (by decide)
theorem emp_flat {room : Nat} : ∀ x ∈ emp room, Flat Tryz.prog 65 x.p := fun x hx => by
  obtain ⟨_, rfl⟩ := List.mem_replicate.1 hx
  exact qz_flat
theorem emp_gets {room p0 p1 p2 : Nat} (h : 1 ≤ room) (h2 : room ≤ 64) (hb : p0 < 256 ∧ p1 < 256 ∧ p2 < 256) : Gets (emp room) p0 p1 p2 0 none false :=
  ⟨emp_flat, hb, by rw [emp_len]; omega, .inl ⟨rfl, by rw [at1_emp h], rfl, rfl⟩⟩
/-- One is in it. -/
def one (room p0 p1 p2 : Nat) (til : Int) (tb : Nat) : List Plc := (emp room).set (spot0 room p0 p1 p2) ⟨1, pfx p0 p1 p2, til, some tb⟩
theorem addC_zero {n : Int} (h : 0 ≤ n ∧ n ≤ 4611686018427387904) : addC 0 n = n := by
  unfold addC cnt
  split <;> split <;> omega
end Go.Proofs.YtpanmfdbdgecaaaGreat.C

namespace Go.Proofs.YtpanmfdbdgecaaaGreat.C
open Go.RowKit
set_option linter.unusedVariables false
theorem pfx_all (p0 p1 p2 : Nat) : (pfx p0 p1 p2).all (·.oneCell') = true := by kernel_rfl
theorem pktX_pre (s0 s1 s2 s3 d0 d1 d2 d3 sp dp n : Nat) : PkP (pktX s0 s1 s2 s3 d0 d1 d2 d3 sp dp n) (n : Nat) (pfx s0 s1 s2) := ⟨⟨pktX_pk _ _ _ _ _ _ _ _ _ _ _, by kernel_rfl⟩, by kernel_rfl⟩
section
variable {w : World} {A : PAd} {F : PCf} {S : PSt}
end
end Go.Proofs.YtpanmfdbdgecaaaGreat.C
