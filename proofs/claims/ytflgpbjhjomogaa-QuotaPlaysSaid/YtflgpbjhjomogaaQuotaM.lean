/- The walk of the reference's Move. -/
import Derived.Test.YtflgpbjhjomogaaQuotaG
import Derived.Deep.Cut
namespace Go.Proofs.Ytflgpbjhjomogaa.C
open Go.RowKit
set_option linter.unusedVariables false
theorem sub_ok {r m c n : Int} {l : List Int} (h : ROk r m l) (ht : takesB l c n = true) : (subL l c n).length ≤ 129 ∧ ∀ x ∈ subL l c n, 0 ≤ x ∧ x ≤ 562949953421312 := by
  obtain ⟨h1, h2, h3⟩ := h
  obtain ⟨t0, t1, t2, t3⟩ := takesB_in ht
  refine ⟨by rw [length_subL]; exact h2, fun x hx => ?_⟩
  unfold subL putL at hx
  rw [if_pos ht] at hx
  rcases mem_set hx with rfl | hx
  · have : l.getD c.toNat 0 ≤ 562949953421312 := by
      rw [List.getD_eq_getElem?_getD]
      cases hy : l[c.toNat]? with
      | none => simp
      | some y => simpa using (h3 y (List.mem_of_getElem? hy)).2
    omega
  · exact h3 x hx
set_option maxRecDepth 100000 in
theorem rmove_any (base g cap : Nat) (r m c d n : Int) (l : List Int) (w : World) (h : RAt w base g cap l) (hok : ROk r m l) (hnn : -9223372036854775808 ≤ n) :
    Calls Try.prog 25 #[rv g cap l.length r m, .int .i64 c, .int .i64 d, .int .i64 n] w fun e w' => ∃ g' cap', e = .returned (.tuple #[rv g' cap' l.length r m, .bool (movesB l c d n)]) ∧ RAt w' base g' cap' (moveL l c d n) ∧ Below w.heap.size w w' := by
  have CS := Lib.hid (fun w' hR => rsub_any base g cap r m c n l w' hR hok hnn)
  have CH := Lib.hid (fun w' => rhas_any base g cap l.length r m d l w' (by have := hok.2.1; omega) rfl)
  obtain ⟨hK, hb2⟩ := two_boxes (r := r) (m := m) h
  cases hf : takesB l c n with
  | false =>
    have hm : movesB l c d n = false := by unfold movesB; rw [hf, Bool.and_false]
    have hL : moveL l c d n = l := by unfold moveL; rw [hm]; rfl
    rw [hL, hm]
    rw [hf] at CS
    clear h hok hf hL hm
    generalize subL l c n = ls at *
    generalize hn : l.length = ln at *
    have HN := Lib.hid hn
    clear hn
    go_enter Try.func25, Try.ntmps25
    go_wp2_with fail
    refine (CS.out _ hK.row).mono ?_
    rintro e w1 ⟨g1, cap1, rfl, hR, hB⟩
    have hK1 := hK.next hB
    have hb1 := keepB hB hb2
    have k0 := hK1.c0
    rw [HN.out] at k0
    have k1 := hK1.c1
    have k2 := hK1.c2
    have hA := Below.alloc (Below.refl w1.heap.size w1) (Nat.le_refl _) (.cells #[.slice (some ⟨g1, 0, none⟩) ln cap1, .int .i64 r, .int .i64 m] 52)
    have HK2 := Lib.hid (hK1.next hA)
    have HB2 := Lib.hid (keepB hA hb1)
    clear hK hb2 hB hb1 hK1 CS hR hA k0 k1 k2
    go_upto_region 2 with (fail)
    generalize w1.alloc (.cells #[.slice (some ⟨g1, 0, none⟩) ln cap1, .int .i64 r, .int .i64 m] 52) = wT at *
    have k0 := HK2.out.c0
    rw [HN.out] at k0
    have k1 := HK2.out.c1
    have k2 := HK2.out.c2
    obtain ⟨c0, c1, c2, f0, f1, f2⟩ := box_facts HB2.out
    go_wp2
    (try simp only [Exit.inBlock, Exit.then])
    refine bodyPost_ret (results_row_tmp rfl _ _ _ _ _ _ _ rfl (box3 HB2.out _ _ _) Try.underlying52 rfl rfl) rfl ?_
    refine ⟨g, cap, rfl, HK2.out.row.stored (HK2.out.row.ne HB2.out) HK2.out.below (by omega) _ _ _⟩
  | true =>
    rw [hf] at CS
    have hsub := sub_ok hok hf
    obtain ⟨t0, t1, t2, t3⟩ := takesB_in hf
    have hn2 : n ≤ 1125899906842624 := by
      have : l.getD c.toNat 0 ≤ 562949953421312 := by
        rw [List.getD_eq_getElem?_getD]
        cases hy : l[c.toNat]? with
        | none => simp
        | some y => simpa using (hok.2.2 y (List.mem_of_getElem? hy)).2
      omega
    cases hd : hasB l d with
    | false =>
      have hm : movesB l c d n = false := by unfold movesB; rw [hd, Bool.false_and]
      have hL : moveL l c d n = l := by unfold moveL; rw [hm]; rfl
      rw [hL, hm]
      rw [hd] at CH
      clear h hok hf hL hm hsub t0 t1 t2 t3 hn2 hd
      generalize subL l c n = ls at *
      generalize hn : l.length = ln at *
      have HN := Lib.hid hn
      clear hn
      go_enter Try.func25, Try.ntmps25
      go_wp2_with fail
      refine (CS.out _ hK.row).mono ?_
      rintro e w1 ⟨g1, cap1, rfl, hR, hB⟩
      have hK1 := hK.next hB
      have hb1 := keepB hB hb2
      have hA := Below.alloc (Below.refl w1.heap.size w1) (Nat.le_refl _) (.cells #[.slice (some ⟨g1, 0, none⟩) ln cap1, .int .i64 r, .int .i64 m] 52)
      have HK2 := Lib.hid (hK1.next hA)
      have HB2 := Lib.hid (keepB hA hb1)
      clear hK hb2 hB hb1 hK1 CS hR hA
      go_upto_region 2 with (fail)
      generalize w1.alloc (.cells #[.slice (some ⟨g1, 0, none⟩) ln cap1, .int .i64 r, .int .i64 m] 52) = wT at *
      have k0 := HK2.out.c0
      rw [HN.out] at k0
      have k1 := HK2.out.c1
      have k2 := HK2.out.c2
      go_wp2_with fail
      refine (CH.out _).mono ?_
      rintro e w2 ⟨rfl, hB⟩
      have hK3 := HK2.out.next hB
      have hb3 := keepB hB HB2.out
      clear HK2 HB2 k0 k1 k2
      have k0 := hK3.c0
      rw [HN.out] at k0
      have k1 := hK3.c1
      have k2 := hK3.c2
      obtain ⟨c0, c1, c2, f0, f1, f2⟩ := box_facts hb3
      have HK3 := Lib.hid hK3
      have HB3 := Lib.hid hb3
      clear hK3 hb3 hB
      go_wp2
      (try simp only [Exit.inBlock, Exit.then])
      refine bodyPost_ret (results_row_tmp rfl _ _ _ _ _ _ _ rfl (box3 HB3.out _ _ _) Try.underlying52 rfl rfl) rfl ?_
      refine ⟨g, cap, rfl, HK3.out.row.stored (HK3.out.row.ne HB3.out) HK3.out.below (by omega) _ _ _⟩
    | true =>
      have hm : movesB l c d n = true := by unfold movesB; rw [hd, hf]; rfl
      have hL : moveL l c d n = putL (subL l c n) d n := by unfold moveL; rw [hm]; rfl
      have hd2 : hasB (subL l c n) d = true := by unfold hasB at hd ⊢; rw [length_subL]; exact hd
      rw [hL, hm]
      rw [hd] at CH
      have C32 : Hid (∀ (g1 cap1 : Nat) (w' : World), RAt w' base g1 cap1 (subL l c n) → Calls Try.prog 32 #[rv g1 cap1 l.length r m, .int .i64 d, .int .i64 n] w' fun e w'' => ∃ g' cap', e = .returned (rv g' cap' l.length r m) ∧ RAt w'' base g' cap' (putL (subL l c n) d n) ∧ Below w'.heap.size w' w'') := fun g1 cap1 w' hR => by
        have := rwith_any base g1 cap1 r m d n (subL l c n) w' hR hsub.1 hd2 (fun x hx => by have := hsub.2 x hx; omega) (by omega)
        rwa [length_subL] at this
      clear h hok hf hL hm hsub t0 t1 t2 t3 hn2 hd hd2
      generalize putL (subL l c n) d n = lp at *
      generalize subL l c n = ls at *
      generalize hn : l.length = ln at *
      have HN := Lib.hid hn
      clear hn
      go_enter Try.func25, Try.ntmps25
      go_wp2_with fail
      refine (CS.out _ hK.row).mono ?_
      rintro e w1 ⟨g1, cap1, rfl, hR, hB⟩
      have hK1 := hK.next hB
      have hb1 := keepB hB hb2
      have hA := Below.alloc (Below.refl w1.heap.size w1) (Nat.le_refl _) (.cells #[.slice (some ⟨g1, 0, none⟩) ln cap1, .int .i64 r, .int .i64 m] 52)
      have HK2 := Lib.hid (hK1.next hA)
      have HB2 := Lib.hid (keepB hA hb1)
      have HT := Lib.hid (Go.heap_alloc_new w1 (.cells #[.slice (some ⟨g1, 0, none⟩) ln cap1, .int .i64 r, .int .i64 m] 52))
      have HR := Lib.hid (hR.below hA)
      clear hK hb2 hB hb1 hK1 CS hR hA
      go_upto_region 2 with (fail)
      generalize w1.alloc (.cells #[.slice (some ⟨g1, 0, none⟩) ln cap1, .int .i64 r, .int .i64 m] 52) = wT at *
      have k0 := HK2.out.c0
      rw [HN.out] at k0
      have k1 := HK2.out.c1
      have k2 := HK2.out.c2
      go_wp2_with fail
      refine (CH.out _).mono ?_
      rintro e w2 ⟨rfl, hB⟩
      have hK3 := HK2.out.next hB
      have hb3 := keepB hB HB2.out
      have ht3 := keepB hB HT.out
      have hR3 := HR.out.below hB
      clear HK2 HB2 k0 k1 k2 HR HT
      obtain ⟨t0, t1, t2, _, _, _⟩ := box_facts ht3
      clear ht3 hB
      go_wp2_with fail
      refine (C32.out _ _ _ hR3).mono ?_
      rintro e w4 ⟨g', cap', rfl, hR4, hB⟩
      have hB4 := hK3.below.trans (hB.mono hK3.below.size)
      have hb4 := keepB hB hb3
      obtain ⟨c0, c1, c2, f0, f1, f2⟩ := box_facts hb4
      have HR4 := Lib.hid hR4
      have HB4 := Lib.hid hb4
      clear hK3 hb3 hB hR4 hb4 hR3 t0 t1 t2 C32
      go_wp2
      (try simp only [Exit.inBlock, Exit.then])
      refine bodyPost_ret (results_row_tmp rfl _ _ _ _ _ _ _ rfl (box3 HB4.out _ _ _) Try.underlying52 rfl rfl) rfl ?_
      refine ⟨g', cap', rfl, HR4.out.stored (HR4.out.ne HB4.out) hB4 (by omega) _ _ _⟩
end Go.Proofs.Ytflgpbjhjomogaa.C
