/- The walks of the reference's Add, Sub, Move. -/
import Derived.Test.YtflgpbjhjomogaaQuotaF
import Derived.Laws.ResultCell
namespace Go.Proofs.Ytflgpbjhjomogaa.C
open Go.RowKit
set_option linter.unusedVariables false
theorem rfits_any (base g cap : Nat) (r m c n : Int) (l : List Int) (w : World) (h : RAt w base g cap l) (hok : ROk r m l) :
    Calls Try.prog 20 #[rv g cap l.length r m, .int .i64 c, .int .i64 n] w fun e w' => e = .returned (.bool (fitsB r m (usedQ r l) l c n)) ∧ Below w.heap.size w w' := by
  have hl := hok.2.1
  cases hb : hasB l c with
  | false =>
    rw [fitsB_c (by unfold hasB at hb; simp only [Bool.and_eq_false_iff, decide_eq_false_iff_not] at hb; omega)]
    exact rfits_no base g cap r m c n l w h hl (.inl hb)
  | true =>
    obtain ⟨h0, h1⟩ := hasB_in hb
    by_cases hn : n < 0 ∨ 1073741824 < n
    · rw [fitsB_n hn]
      exact rfits_no base g cap r m c n l w h hl (.inr (by omega))
    · obtain ⟨c, rfl⟩ := Int.eq_ofNat_of_zero_le h0
      obtain ⟨x, hx⟩ : ∃ x, l[c]? = some x := ⟨_, List.getElem?_eq_getElem (by simpa using h1)⟩
      rw [fitsB_x hx (by omega) (by omega)]
      have := rfits_yes base g cap r m c n l w h hok hb (by omega) (by omega)
      unfold putS at this
      rwa [Int.toNat_natCast, List.getD_eq_getElem?_getD, hx] at this
theorem results_row_tmp {P : Program} {fn : Func} {p u : Tmp} {ty : TypeId} (h : fn.results = #[.cell p ty, .tmp u]) (tmps : Array Value) (w : World) (g : Nat) (t : TypeId) (cs : Array Value) (fr : Nat × Nat) (d : TypeDesc)
    (hp : tmps.getD p undef = .pointer (some ⟨g, 0, none⟩)) (hg : w.heap[g]? = some (.cells cs t fr))
    (hu : P.underlying ty = some d) (hd : (match d with | .struct _ | .array _ _ => true | _ => false) = true) (hi : (P.info? ty).map (·.size) = some cs.size) :
    (results fn tmps).run P w = .ok (.tuple #[.agg cs, tmps.getD u undef]) w := by
  rw [results_cell_tmp h, hp]
  simp [asAddr, run_loadVar_row w g t ty cs fr d hg hu hd hi]
/-- The box that a result is stored into. -/
theorem keepB {w w' : World} {b : Nat} {o : Obj} (h : Below w.heap.size w w') (hb : w.heap[b]? = some o) : w'.heap[b]? = some o :=
  (h.block b (Array.getElem?_eq_some_iff.1 hb).1).trans hb
theorem RAt.far {w : World} {base g cap b j : Nat} {l : List Int} (h : RAt w base g cap l) (hb : g ≠ b) (v : Value) : RAt (w.setCell ⟨b, j, none⟩ v) base g cap l :=
  ownsRow_setCell_other h (a := ⟨b, j, none⟩) (by simp [Value.ownBlock]; omega) v
theorem RAt.ne {w : World} {base g cap b : Nat} {l : List Int} (h : RAt w base g cap l) {u0 u1 u2 : Value} (hb : w.heap[b]? = some (.cells #[u0, u1, u2] 52 (0, 0))) : g ≠ b := by
  rintro rfl
  rcases h.2 with ⟨h0, _⟩ | ⟨q, cp, cur, hv, hg, hh, r⟩
  · cases h0
  · injection hv with hv1 hv2 hv3
    injection hv1 with hv1
    injection hv1 with hv1
    subst hv1
    rw [hb] at hh
    injection hh with hh
    injection hh with _ hh
    cases hh
theorem box_facts {w : World} {b : Nat} {u0 u1 u2 : Value} {t : TypeId} (h : w.heap[b]? = some (.cells #[u0, u1, u2] t (0, 0))) :
    w.cell? ⟨b, 0, none⟩ = some u0 ∧ w.cell? ⟨b, 1, none⟩ = some u1 ∧ w.cell? ⟨b, 2, none⟩ = some u2 ∧ w.frozen? ⟨b, 0, none⟩ = false ∧ w.frozen? ⟨b, 1, none⟩ = false ∧ w.frozen? ⟨b, 2, none⟩ = false :=
  ⟨by rw [cell_of_row _ _ _ _ _ _ h]; rfl, by rw [cell_of_row _ _ _ _ _ _ h]; rfl, by rw [cell_of_row _ _ _ _ _ _ h]; rfl, frozen_of_row _ _ _ _ _ h, frozen_of_row _ _ _ _ _ h, frozen_of_row _ _ _ _ _ h⟩
/-- What a call holds behind which a value of three cells is stored as the result. -/
theorem RAt.stored {w0 w : World} {base g cap b : Nat} {l : List Int} (h : RAt w base g cap l) (hb : g ≠ b) (hB : Below w0.heap.size w0 w) (hb0 : w0.heap.size ≤ b) (v0 v1 v2 : Value) :
    RAt (((w.setCell ⟨b, 0, none⟩ v0).setCell ⟨b, 1, none⟩ v1).setCell ⟨b, 2, none⟩ v2) base g cap l ∧ Below w0.heap.size w0 (((w.setCell ⟨b, 0, none⟩ v0).setCell ⟨b, 1, none⟩ v1).setCell ⟨b, 2, none⟩ v2) :=
  ⟨((h.far hb v0).far hb v1).far hb v2, ((hB.setCell hb0 _).setCell hb0 _).setCell hb0 _⟩
@[reducible] def zero52 : Obj := .cells #[.slice none 0 0, .int .i64 0, .int .i64 0] 52
@[reducible] def box52 (g cap n : Nat) (r m : Int) : Obj := .cells #[.slice (some ⟨g, 0, none⟩) n cap, .int .i64 r, .int .i64 m] 52
theorem two_boxes {w : World} {base g cap : Nat} {r m : Int} {l : List Int} (h : RAt w base g cap l) :
    BoxK w w.heap.size base g cap r m l ((w.alloc (box52 g cap l.length r m)).alloc zero52) ∧ ((w.alloc (box52 g cap l.length r m)).alloc zero52).heap[w.heap.size + 1]? = some (.cells #[.slice none 0 0, .int .i64 0, .int .i64 0] 52 (0, 0)) := by
  refine ⟨(BoxK.new (r := r) (m := m) h).next ((Below.refl _ _).alloc (Nat.le_refl _) _), ?_⟩
  have := Go.heap_alloc_new (w.alloc (box52 g cap l.length r m)) zero52
  rwa [show (w.alloc (box52 g cap l.length r m)).heap.size = w.heap.size + 1 by simp] at this
set_option maxRecDepth 100000 in
theorem radd_any (base g cap : Nat) (r m c n : Int) (l : List Int) (w : World) (h : RAt w base g cap l) (hok : ROk r m l) :
    Calls Try.prog 21 #[rv g cap l.length r m, .int .i64 c, .int .i64 n] w fun e w' => ∃ g' cap', e = .returned (.tuple #[rv g' cap' l.length r m, .bool (fitsB r m (usedQ r l) l c n)]) ∧ RAt w' base g' cap' (addL r m (usedQ r l) l c n) ∧ Below w.heap.size w w' := by
  have CF := Lib.hid (fun w' hR => rfits_any base g cap r m c n l w' hR hok)
  obtain ⟨hK, hb2⟩ := two_boxes (r := r) (m := m) h
  cases hf : fitsB r m (usedQ r l) l c n with
  | false =>
    have hL : addL r m (usedQ r l) l c n = l := by unfold addL; rw [hf]; rfl
    rw [hL]
    rw [hf] at CF
    clear h hok hf hL
    generalize hn : l.length = ln at *
    have HN := Lib.hid hn
    clear hn
    go_enter Try.func21, Try.ntmps21
    go_wp2_with fail
    refine (CF.out _ hK.row).mono ?_
    rintro e w1 ⟨rfl, hB⟩
    have hK1 := hK.next hB
    have hb1 := keepB hB hb2
    have k0 := hK1.c0
    rw [HN.out] at k0
    have k1 := hK1.c1
    have k2 := hK1.c2
    obtain ⟨c0, c1, c2, f0, f1, f2⟩ := box_facts hb1
    have HB1 := Lib.hid hb1
    have HK1 := Lib.hid hK1
    clear hK hb2 hB hb1 hK1 CF
    go_wp2
    (try simp only [Exit.inBlock, Exit.then])
    refine bodyPost_ret (results_row_tmp rfl _ _ _ _ _ _ _ rfl (box3 HB1.out _ _ _) Try.underlying52 rfl rfl) rfl ?_
    refine ⟨g, cap, rfl, HK1.out.row.stored (HK1.out.row.ne HB1.out) HK1.out.below (by omega) _ _ _⟩
  | true =>
    obtain ⟨hc0, hc1, hn0, hn1, _⟩ := fits_in hf
    have hb : hasB l c = true := hasB_mk hc0 hc1
    have C32 := Lib.hid (fun w' hR => rwith_any base g cap r m c n l w' hR hok.2.1 hb (fun x hx => by have := hok.2.2 x hx; omega) (by omega))
    have hL : addL r m (usedQ r l) l c n = putL l c n := by unfold addL; rw [hf]; rfl
    rw [hL]
    rw [hf] at CF
    have HLL := Lib.hid (length_putL l c n)
    clear h hok hf hL hc0 hc1 hn0 hn1 hb
    generalize putL l c n = lp at *
    generalize hn : l.length = ln at *
    have HN := Lib.hid hn
    clear hn
    go_enter Try.func21, Try.ntmps21
    go_wp2_with fail
    refine (CF.out _ hK.row).mono ?_
    rintro e w1 ⟨rfl, hB⟩
    have hK1 := hK.next hB
    have hb1 := keepB hB hb2
    have k0 := hK1.c0
    rw [HN.out] at k0
    have k1 := hK1.c1
    have k2 := hK1.c2
    clear hK hb2 hB CF
    go_wp2_with fail
    refine (C32.out _ hK1.row).mono ?_
    rintro e w2 ⟨g', cap', rfl, hR, hB⟩
    have hB2 := hK1.below.trans (hB.mono hK1.below.size)
    have hb1 := keepB hB hb1
    obtain ⟨c0, c1, c2, f0, f1, f2⟩ := box_facts hb1
    have HB1 := Lib.hid hb1
    have HR := Lib.hid hR
    clear hB hK1 hR C32 k0 k1 k2
    go_wp2
    (try simp only [Exit.inBlock, Exit.then])
    refine bodyPost_ret (results_row_tmp rfl _ _ _ _ _ _ _ rfl (box3 HB1.out _ _ _) Try.underlying52 rfl rfl) rfl ?_
    refine ⟨g', cap', rfl, HR.out.stored (HR.out.ne HB1.out) hB2 (by omega) _ _ _⟩
set_option maxRecDepth 100000 in
theorem rsub_any (base g cap : Nat) (r m c n : Int) (l : List Int) (w : World) (h : RAt w base g cap l) (hok : ROk r m l) (hnn : -9223372036854775808 ≤ n) :
    Calls Try.prog 23 #[rv g cap l.length r m, .int .i64 c, .int .i64 n] w fun e w' => ∃ g' cap', e = .returned (.tuple #[rv g' cap' l.length r m, .bool (takesB l c n)]) ∧ RAt w' base g' cap' (subL l c n) ∧ Below w.heap.size w w' := by
  have CH := Lib.hid (fun w' => rhas_any base g cap l.length r m c l w' (by have := hok.2.1; omega) rfl)
  obtain ⟨hK, hb2⟩ := two_boxes (r := r) (m := m) h
  cases hf : takesB l c n with
  | false =>
    have hL : subL l c n = l := by unfold subL; rw [hf]; rfl
    rw [hL]
    clear h hL
    cases hb : hasB l c with
    | false =>
      rw [hb] at CH
      clear hf hok hb
      generalize hn : l.length = ln at *
      have HN := Lib.hid hn
      clear hn
      go_enter Try.func23, Try.ntmps23
      go_wp2_with fail
      refine (CH.out _).mono ?_
      rintro e w1 ⟨rfl, hB⟩
      have hK1 := hK.next hB
      have hb1 := keepB hB hb2
      have k0 := hK1.c0
      rw [HN.out] at k0
      have k1 := hK1.c1
      have k2 := hK1.c2
      obtain ⟨c0, c1, c2, f0, f1, f2⟩ := box_facts hb1
      have HB1 := Lib.hid hb1
      have HK1 := Lib.hid hK1
      clear hK hb2 hB hb1 hK1 CH
      go_wp2
      (try simp only [Exit.inBlock, Exit.then])
      refine bodyPost_ret (results_row_tmp rfl _ _ _ _ _ _ _ rfl (box3 HB1.out _ _ _) Try.underlying52 rfl rfl) rfl ?_
      refine ⟨g, cap, rfl, HK1.out.row.stored (HK1.out.row.ne HB1.out) HK1.out.below (by omega) _ _ _⟩
    | true =>
      rw [hb] at CH
      obtain ⟨h0, h1⟩ := hasB_in hb
      obtain ⟨c, rfl⟩ := Int.eq_ofNat_of_zero_le h0
      obtain ⟨x, hx⟩ : ∃ x, l[c]? = some x := ⟨_, List.getElem?_eq_getElem (by simpa using h1)⟩
      have hg : l.getD (c : Int).toNat 0 = x := by rw [Int.toNat_natCast, List.getD_eq_getElem?_getD, hx]; rfl
      unfold takesB at hf
      rw [hb, hg] at hf
      simp only [Bool.true_and, Bool.and_eq_false_iff, decide_eq_false_iff_not] at hf
      have hc' : c < l.length := by simpa using h1
      have HX := Lib.hid hx
      have hn' : n < 0 ∨ (0 ≤ n ∧ x < n) := by omega
      clear hok hb h0 h1 hx hg hf
      generalize hn : l.length = ln at *
      have HN := Lib.hid hn
      clear hn
      rcases hn' with hn' | ⟨hn0, hn'⟩
      · go_enter Try.func23, Try.ntmps23
        go_wp2_with fail
        refine (CH.out _).mono ?_
        rintro e w1 ⟨rfl, hB⟩
        have hK1 := hK.next hB
        have hb1 := keepB hB hb2
        have k0 := hK1.c0
        rw [HN.out] at k0
        have k1 := hK1.c1
        have k2 := hK1.c2
        obtain ⟨c0, c1, c2, f0, f1, f2⟩ := box_facts hb1
        have HB1 := Lib.hid hb1
        have HK1 := Lib.hid hK1
        clear hK hb2 hB hb1 hK1 CH
        go_wp2
        (try simp only [Exit.inBlock, Exit.then])
        refine bodyPost_ret (results_row_tmp rfl _ _ _ _ _ _ _ rfl (box3 HB1.out _ _ _) Try.underlying52 rfl rfl) rfl ?_
        refine ⟨g, cap, rfl, HK1.out.row.stored (HK1.out.row.ne HB1.out) HK1.out.below (by omega) _ _ _⟩
      · have d0 : decide (n < 0) = false := decide_eq_false (by omega)
        have d1 : decide (x < n) = true := decide_eq_true hn'
        go_enter Try.func23, Try.ntmps23
        go_wp2_with fail
        refine (CH.out _).mono ?_
        rintro e w1 ⟨rfl, hB⟩
        have hK1 := hK.next hB
        have hb1 := keepB hB hb2
        have k0 := hK1.c0
        rw [HN.out] at k0
        have k1 := hK1.c1
        have k2 := hK1.c2
        have kx := hK1.row.at_ HX.out
        obtain ⟨c0, c1, c2, f0, f1, f2⟩ := box_facts hb1
        have HB1 := Lib.hid hb1
        have HK1 := Lib.hid hK1
        clear hK hb2 hB hb1 hK1 CH
        go_wp2
        (try simp only [Exit.inBlock, Exit.then])
        refine bodyPost_ret (results_row_tmp rfl _ _ _ _ _ _ _ rfl (box3 HB1.out _ _ _) Try.underlying52 rfl rfl) rfl ?_
        refine ⟨g, cap, rfl, HK1.out.row.stored (HK1.out.row.ne HB1.out) HK1.out.below (by omega) _ _ _⟩
  | true =>
    obtain ⟨h0, h1, hn0, hn1⟩ := takesB_in hf
    have hb : hasB l c = true := hasB_mk h0 h1
    rw [hb] at CH
    obtain ⟨c, rfl⟩ := Int.eq_ofNat_of_zero_le h0
    obtain ⟨x, hx⟩ : ∃ x, l[c]? = some x := ⟨_, List.getElem?_eq_getElem (by simpa using h1)⟩
    have hg : l.getD (c : Int).toNat 0 = x := by rw [Int.toNat_natCast, List.getD_eq_getElem?_getD, hx]; rfl
    rw [hg] at hn1
    have hxx := hok.2.2 x (List.mem_of_getElem? hx)
    have C32 := Lib.hid (fun w' hR => rwith_any base g cap r m (c : Nat) (-n) l w' hR hok.2.1 hb (fun x hx => by have := hok.2.2 x hx; omega) (by omega))
    have hL : subL l (c : Nat) n = putL l (c : Nat) (-n) := by unfold subL; rw [hf]; rfl
    rw [hL]
    have HLL := Lib.hid (length_putL l (c : Nat) (-n))
    have HX := Lib.hid hx
    have hc' : c < l.length := by simpa using h1
    have hw : IntKind.i64.wrap (-n) = -n := IntWalk.i64_in _ (by omega)
    have d0 : decide (n < 0) = false := decide_eq_false (by omega)
    have d1 : decide (x < n) = false := decide_eq_false (by omega)
    clear h hok hf hL h0 h1 hb hx hg hxx
    generalize putL l (c : Nat) (-n) = lp at *
    generalize hn : l.length = ln at *
    have HN := Lib.hid hn
    clear hn
    go_enter Try.func23, Try.ntmps23
    go_wp2_with fail
    refine (CH.out _).mono ?_
    rintro e w1 ⟨rfl, hB⟩
    have hK1 := hK.next hB
    have hb1 := keepB hB hb2
    have k0 := hK1.c0
    rw [HN.out] at k0
    have k1 := hK1.c1
    have k2 := hK1.c2
    have kx := hK1.row.at_ HX.out
    clear hK hb2 hB CH
    go_wp2_with fail
    refine (C32.out _ hK1.row).mono ?_
    rintro e w2 ⟨g', cap', rfl, hR, hB⟩
    have hB2 := hK1.below.trans (hB.mono hK1.below.size)
    have hb1 := keepB hB hb1
    obtain ⟨c0, c1, c2, f0, f1, f2⟩ := box_facts hb1
    have HB1 := Lib.hid hb1
    have HR := Lib.hid hR
    clear hB hK1 hR C32 k0 k1 k2 kx
    go_wp2
    (try simp only [Exit.inBlock, Exit.then])
    refine bodyPost_ret (results_row_tmp rfl _ _ _ _ _ _ _ rfl (box3 HB1.out _ _ _) Try.underlying52 rfl rfl) rfl ?_
    refine ⟨g', cap', rfl, HR.out.stored (HR.out.ne HB1.out) hB2 (by omega) _ _ _⟩
end Go.Proofs.Ytflgpbjhjomogaa.C
