/- The law TopEnds, walked. -/
import Derived.Test.YtpanmfdbdgecaaaGreatE16
namespace Go.Proofs.YtpanmfdbdgecaaaGreat.C
open Go.RowKit
set_option linter.unusedVariables false
section
open Go.ChangeShapes Go.WideShapes
variable {H : Type} {enc : TypeId × Value → H} {w : World} {base : Nat} {held : Bool}
set_option maxRecDepth 100000 in
theorem open_key {spare : Nat → Bool} {r : Reach} {b0 : Nat} {v : Value} {d : DataW H} {p : List MemPlace} (hv : Value.okWide Tryz.prog w r b0 22 v) (h : DataW.Trod enc Tryz.prog w base spare held 22 v d p) :
    ∃ cs : Array Value, v = .agg cs ∧ cs.size = 16 := by
  have hu := Tryz.underlying22
  simp only [Value.okWide, hu] at hv
  obtain ⟨cs, h1, h2⟩ := hv
  subst h1
  exact ⟨cs, rfl, h2.1.trans (by kernel_rfl)⟩
noncomputable def zero_key : Value := .agg KEZ
end
theorem Cfg.set {cv : Array Value} {c : Nat → Int} (h : Cfg cv c) (i : Nat) (v : Int) : Cfg (cv.setIfInBounds i (.int .i64 v)) (fun k => if k = i then v else c k) :=
  ⟨by rw [Array.size_setIfInBounds]; exact h.size, fun k hk => by
    by_cases e : k = i
    · subst e
      rw [Array.getElem?_setIfInBounds_self_of_lt (by rw [h.size]; exact hk), if_pos rfl]
    · rw [Array.getElem?_setIfInBounds_ne (fun e2 => e e2.symm), if_neg e]
      exact h.at_ k hk⟩
theorem Cfg.congr {cv : Array Value} {c d : Nat → Int} (h : Cfg cv c) (e : ∀ k, k < 20 → c k = d k) : Cfg cv d := ⟨h.size, fun i hi => by rw [← e i hi]; exact h.at_ i hi⟩
theorem ends_cfg (T : Int) : Cfg ((((((cfgV litC).setIfInBounds 17 (.int .i64 T)).setIfInBounds 16 (.int .i64 1)).setIfInBounds 19 (.int .i64 1048576)).setIfInBounds 15 (.int .i64 1)).setIfInBounds 1 (.int .i64 9)) (endC T) := by
  refine Cfg.congr ((((((cfgV_ok litC).set 17 T).set 16 1).set 19 1048576).set 15 1).set 1 9) fun i hi => ?_
  have : i = 0 ∨ i = 1 ∨ i = 2 ∨ i = 3 ∨ i = 4 ∨ i = 5 ∨ i = 6 ∨ i = 7 ∨ i = 8 ∨ i = 9 ∨ i = 10 ∨ i = 11 ∨ i = 12 ∨ i = 13 ∨ i = 14 ∨ i = 15 ∨ i = 16 ∨ i = 17 ∨ i = 18 ∨ i = 19 := by omega
  rcases this with h | h | h | h | h | h | h | h | h | h | h | h | h | h | h | h | h | h | h | h <;> subst h <;> rfl
def VZ0 : Array Value := #[.int .i64 0, .int .i64 0, .int .i64 0, .int .i64 0, .bool false, .bool false]
set_option maxRecDepth 100000 in
set_option maxHeartbeats 4000000 in
theorem walk_ends (kv : Array Value) (term at_ between : Int) (w : World) (hks : kv.size = 16) (h1 : (Lit.int .u64 term).wf = true) (h2 : (Lit.int .u64 at_).wf = true) (h3 : (Lit.int .u64 between).wf = true) :
    Calls Tryz.prog 5 #[.agg kv, .int .u64 term, .int .u64 at_, .int .u64 between] w fun e w' => e = .returned (.bool true) ∧ Below w.heap.size w w' := by
  obtain ⟨t0, t1⟩ := bounds_u64 h1
  obtain ⟨a0, a1⟩ := bounds_u64 h2
  obtain ⟨b0, b1⟩ := bounds_u64 h3
  clear h1 h2 h3
  have CA := Lib.hid awake_is
  have CL := Lib.hid little_is
  obtain ⟨dz, hdz⟩ : ∃ z, DZ = z := ⟨_, rfl⟩
  have hdb := build_dz
  have hds : dz.size = 2 := by rw [← hdz]; rfl
  rw [hdz] at hdb
  clear hdz
  have hst := cz_zero
  have hcfg := cfg_all litC
  have HV := Lib.hid (cfgV_ok litC)
  have HC := Lib.hid ends_cfg
  have hc20 : (Tryz.prog.info? 26).map (·.size) = some (cfgV litC).size := by rw [(cfgV_ok litC).size]; exact cfg_size
  have hcz : CZ.size = (cfgV litC).size := (cfgV_ok _).size.trans (cfgV_ok litC).size.symm
  generalize cfgV litC = cv at *
  generalize CZ = Z at *
  have HST := Lib.hid hst
  have HCF := Lib.hid hcfg
  have HC20 := Lib.hid hc20
  have HCZ := Lib.hid hcz
  have HDB := Lib.hid hdb
  have HDS := Lib.hid hds
  clear hst hcfg hc20 hcz hdb hds
  obtain ⟨tt, htt⟩ : ∃ tt, term.tmod 1099511627776 = tt := ⟨_, rfl⟩
  have htt0 : 0 ≤ tt ∧ tt < 1099511627776 := by rw [Int.tmod_eq_emod_of_nonneg t0] at htt; omega
  have hw1 : IntKind.i64.wrap tt = tt := IntWalk.i64_in _ (by omega)
  obtain ⟨T, hT⟩ : ∃ T, 1 + tt = T := ⟨_, rfl⟩
  have hT0 : 1 ≤ T ∧ T ≤ 1099511627776 := by omega
  have hw2 : IntKind.i64.wrap T = T := IntWalk.i64_in _ (by omega)
  obtain ⟨n0, hn0⟩ : ∃ n0, at_.tmod 1099511627776 = n0 := ⟨_, rfl⟩
  have hn00 : 0 ≤ n0 ∧ n0 < 1099511627776 := by rw [Int.tmod_eq_emod_of_nonneg a0] at hn0; omega
  have hw3 : IntKind.i64.wrap n0 = n0 := IntWalk.i64_in _ (by omega)
  have HT0 := Lib.hid hT0
  have HN0 := Lib.hid hn00
  have HBT := Lib.hid (show 0 ≤ between ∧ between ≤ 18446744073709551615 from ⟨b0, b1⟩)
  have HKS := Lib.hid hks
  clear hT0 hn00 b0 b1 hks htt0 t0 t1 a0 a1
  go_enter Tryz.func5, Tryz.ntmps5
  go_upto_region 1 with ((with_reducible refine arm_box 4 0 22 kv rfl ?_); intro w1 HB1 HX1 HS1)
  obtain ⟨kb, hkb⟩ : ∃ k, k = w.heap.size := ⟨_, rfl⟩
  rw [← hkb] at HX1 ⊢
  have HKB := Lib.hid hkb
  clear hkb
  go_wp2_with fail
  refine (CA.out _).mono ?_
  rintro e w2 ⟨rfl, hB2⟩
  have HX2 := Lib.hid (show w2.heap[kb]? = some (.cells kv 22 (0, 0)) from (hB2.block kb (by have := HKB.out; have := HS1.out; omega)).trans HX1.out)
  have HB2 := Lib.hid (HB1.out.trans (hB2.mono HB1.out.size))
  clear hB2 HX1 CA
  go_wp2_with fail
  refine (CL.out _).mono ?_
  rintro e w3 ⟨rfl, hB3⟩
  have HX3 := Lib.hid (keep_block hB3 HX2.out)
  have HB3 := Lib.hid (HB2.out.trans (hB3.mono HB2.out.size))
  clear hB3 HX2 HB2 CL HB1 HS1
  obtain ⟨cb, hcb⟩ : ∃ c, c = w3.heap.size := ⟨_, rfl⟩
  have HK3 := Lib.hid (show kb < w3.heap.size from (Array.getElem?_eq_some_iff.1 HX3.out).1)
  go_upto_region 4 with (first | ((with_reducible refine arm_alloc 9 26 Z 20 HST.out ?_); intro w4 HB4 HX4 HS4; have hst := box_store (t := 26) (x := cv) HX4.out HC20.out HCF.out HCZ.out) | ((with_reducible refine arm_store 9 16 26 _ _ _ hst ?_ ?_ ?_); rfl; rfl))
  clear hst
  have hX5 := box_whole HX4.out (cs := cv) HCZ.out.symm
  have hB5 := below_setCells (b := w3.heap.size) (Nat.le_refl _) cv.toList 0 HB4.out
  rw [← hcb] at hX5 hB5 ⊢
  have HXK := Lib.hid (show (w4.setCells cb 0 cv.toList).heap[kb]? = some (.cells kv 22 (0, 0)) from (hB5.block kb (by have := HK3.out; omega)).trans HX3.out)
  have HB5 := Lib.hid (HB3.out.trans (hB5.mono (hcb ▸ HB3.out.size)))
  have HCB := Lib.hid (show w.heap.size ≤ cb from hcb ▸ HB3.out.size)
  have HNE := Lib.hid (show kb ≠ cb from by have := HK3.out; omega)
  clear hB5 HX4 HB4 HS4 HB3 HX3 HK3 hcb HCZ HST
  generalize w4.setCells cb 0 cv.toList = w5 at *
  have c17 := cells_of_row hX5 17 _ (HV.out.at_ 17 (by decide))
  have c16 := cells_of_row hX5 16 _ (HV.out.at_ 16 (by decide))
  have c19 := cells_of_row hX5 19 _ (HV.out.at_ 19 (by decide))
  have c15 := cells_of_row hX5 15 _ (HV.out.at_ 15 (by decide))
  have c1 := cells_of_row hX5 1 _ (HV.out.at_ 1 (by decide))
  have f17 := frozen_of_row _ _ 17 _ _ hX5
  have f16 := frozen_of_row _ _ 16 _ _ hX5
  have f19 := frozen_of_row _ _ 19 _ _ hX5
  have f15 := frozen_of_row _ _ 15 _ _ hX5
  have f1 := frozen_of_row _ _ 1 _ _ hX5
  have hX6 := heap_setCell_same _ _ 1 _ _ (.int .i64 9) (heap_setCell_same _ _ 15 _ _ (.int .i64 1) (heap_setCell_same _ _ 19 _ _ (.int .i64 1048576) (heap_setCell_same _ _ 16 _ _ (.int .i64 1) (heap_setCell_same _ _ 17 _ _ (.int .i64 T) hX5))))
  have hB6 := ((((HB5.out.setCell (p := ⟨cb, 17, none⟩) HCB.out (.int .i64 T)).setCell (p := ⟨cb, 16, none⟩) HCB.out (.int .i64 1)).setCell (p := ⟨cb, 19, none⟩) HCB.out (.int .i64 1048576)).setCell (p := ⟨cb, 15, none⟩) HCB.out (.int .i64 1)).setCell (p := ⟨cb, 1, none⟩) HCB.out (.int .i64 9)
  have hkk : ∀ (x : World) (i : Nat) (v : Value), x.heap[kb]? = some (.cells kv 22 (0, 0)) → (x.setCell ⟨cb, i, none⟩ v).heap[kb]? = some (.cells kv 22 (0, 0)) := fun x i v h => (heap_setCell_other _ _ _ _ HNE.out).trans h
  have hKA := hkk _ 1 (.int .i64 9) (hkk _ 15 (.int .i64 1) (hkk _ 19 (.int .i64 1048576) (hkk _ 16 (.int .i64 1) (hkk _ 17 (.int .i64 T) HXK.out))))
  have HX6 := Lib.hid hX6
  have HB6 := Lib.hid hB6
  have HK6 := Lib.hid hKA
  have HV6 := Lib.hid (HC.out T)
  clear hX6 hB6 hkk hKA hX5 HC
  go_upto_region 5 with (fail)
  generalize (((((w5.setCell ⟨cb, 17, none⟩ (.int .i64 T)).setCell ⟨cb, 16, none⟩ (.int .i64 1)).setCell ⟨cb, 19, none⟩ (.int .i64 1048576)).setCell ⟨cb, 15, none⟩ (.int .i64 1)).setCell ⟨cb, 1, none⟩ (.int .i64 9)) = w6 at *
  generalize (((((cv.setIfInBounds 17 (Value.int .i64 T)).setIfInBounds 16 (.int .i64 1)).setIfInBounds 19 (.int .i64 1048576)).setIfInBounds 15 (.int .i64 1)).setIfInBounds 1 (.int .i64 9)) = cv at *
  clear c17 c16 c19 c15 c1 f17 f16 f19 f15 f1 HXK HB5 HV HCF HC20
  have hl1 := box_load (t := 26) HX6.out _ Tryz.underlying26 rfl (by rw [HV6.out.size]; exact cfg_size)
  have hl2 := keys_load HKS.out HK6.out
  have HLT := Lib.hid (show cb < w6.heap.size from (Array.getElem?_eq_some_iff.1 HX6.out).1)
  go_wp2_with (first | ((with_reducible refine arm_load 27 9 26 (.pointer (some ⟨cb, 0, none⟩)) (.agg cv) hl1 ?_ ?_); rfl) | ((with_reducible refine arm_load 28 4 22 (.pointer (some ⟨kb, 0, none⟩)) (.agg kv) hl2 ?_ ?_); rfl))
  refine (ends_begin cv kv T 0 _ HV6.out HT0.out HKS.out).mono ?_
  rintro e w7 ⟨eb, G, rfl, hE, hB7⟩
  obtain ⟨H, hH⟩ : ∃ H, H = w6.heap.size := ⟨_, rfl⟩
  rw [← hH] at hE
  have HX7 := Lib.hid (keep_block hB7 HX6.out)
  have HB7 := Lib.hid (HB6.out.trans (hB7.mono HB6.out.size))
  have HLO := Lib.hid (show w.heap.size ≤ H from hH ▸ HB6.out.size)
  have HHI := Lib.hid (show H ≤ w7.heap.size from hH ▸ hB7.size)
  have HCH := Lib.hid (show cb < H from hH ▸ HLT.out)
  have HE := Lib.hid (hE n0 HN0.out.1)
  have C17 : Hid (∀ w' : World, Kp (fun k => k < H) w7 w' → w'.cell? ⟨cb, 17, none⟩ = some (.int .i64 T)) := Lib.hid fun w' q => cells_of_row (q.keep HX7.out HCH.out) 17 _ (HV6.out.at_ 17 (by decide))
  clear hE hB7 hl1 hl2 HX6 HB6 HK6 hH HLT htt hT hw1 HX7 HV6 HCB HNE HKB
  obtain ⟨F, hF⟩ : ∃ F : PCf, F = ⟨cv, endC T, kv, G⟩ := ⟨_, rfl⟩
  go_wp2_with fail
  go_loopw [12, 13, 35] (fun s _ t wr => ∃ (r : Nat) (now tc : Int), r ≤ 2 ∧ t = .int .i64 (r : Nat) ∧ s = .int .i64 now ∧ 0 ≤ tc ∧ tc ≤ now ∧ now ≤ 1099511627776 + 1099511627776 * (r : Int) ∧ EngP (fun k => k < H) eb ⟨cv, endC T, kv, G⟩ tc (RdS now r) wr ∧ Kp (fun k => k < H) w7 wr) (fun _ _ t _ => (2 - intOf t).toNat)
  case atStart => exact ⟨0, n0, 0, by omega, rfl, rfl, by omega, HN0.out.1, by have := HN0.out; omega, HE.out, Kp.refl _ _⟩
  case round =>
    obtain ⟨r, now, tc, hr, rfl, rfl, htc, htn, hnow, hEr, hKr⟩ := hrel
    have hc := C17.out _ hKr
    have HK := Lib.hid hKr
    have HER := Lib.hid hEr
    clear hKr hEr HE
    by_cases hr2 : r = 2
    · subst hr2
      go_wp2
      go_ret
      exact ⟨rfl, HB7.out.trans (HK.out.to_below (fun k hk => Nat.lt_of_lt_of_le hk HLO.out) (Nat.le_trans HLO.out HHI.out))⟩
    · have hr1 : (r : Int) < 2 := by omega
      have hw0 : IntKind.i64.wrap ((r : Int) + 1) = ((r + 1 : Nat) : Int) := by rw [IntWalk.i64_in _ (by omega)]; omega
      have C1 := Lib.hid (engp_clock HER.out now htn (by omega))
      obtain ⟨bt, hbt⟩ : ∃ bt, between.tmod T = bt := ⟨_, rfl⟩
      have hbt0 : 0 ≤ bt ∧ bt < T := by
        have := HBT.out
        have h1 := HT0.out
        rw [Int.tmod_eq_emod_of_nonneg this.1] at hbt
        have h2 := Int.emod_nonneg between (show T ≠ 0 by omega)
        have h3 := Int.emod_lt_of_pos between (show 0 < T by omega)
        omega
      have hT9 := HT0.out
      have hu : IntKind.u64.wrap T = T := IntWalk.u64_in _ (by omega)
      have hw1 : IntKind.i64.wrap bt = bt := IntWalk.i64_in _ (by omega)
      have hw4 : IntKind.i64.wrap (now + bt) = now + bt := IntWalk.i64_in _ (by omega)
      have hw5 : IntKind.i64.wrap (now + T) = now + T := IntWalk.i64_in _ (by omega)
      have hw6 : IntKind.i64.wrap (now + T - 1) = now + T - 1 := IntWalk.i64_in _ (by omega)
      have hTne : T ≠ 0 := by omega
      have hadd : addC now T = now + T := addC_in (by omega) (by omega) (by omega)
      have HN := Lib.hid (show 0 ≤ now ∧ now ≤ 2199023255552 ∧ r ≤ 1 from ⟨by omega, by omega, by omega⟩)
      have HBT0 := Lib.hid hbt0
      have HADD := Lib.hid hadd
      have HNX := Lib.hid (show now + T ≤ 1099511627776 + 1099511627776 * ((r + 1 : Nat) : Int) by omega)
      clear hbt0 hT9 hadd hnow htc htn hr
      go_wp2_with fail
      refine C1.out.mono ?_
      rintro e w8 ⟨rfl, hE8, hK8⟩
      have HE8 := Lib.hid hE8
      have HK8 := Lib.hid (HK.out.trans hK8)
      clear hE8 hK8 C1 HER HK hc
      go_wp2_with fail
      refine (packet_5 _).mono ?_
      rintro e w9 ⟨g, c, rfl, hf, hB9, hge⟩
      have HE9 := Lib.hid (HE8.out.mine hB9 hge hf.blk)
      have HK9 := Lib.hid (HK8.out.trans (Kp.of_below hB9))
      have hdb := HDB.out w9
      have C2 := Lib.hid (ends_frame HE9.out g c hf (.inr rfl) HN.out.2.2 ⟨HN.out.1, HN.out.2.1⟩ HT0.out dz HDS.out)
      clear hf hB9 hge HE8 HK8
      go_wp2_with ((with_reducible refine arm_build 43 41 _ #[] _ hdb ?_ ?_); (first | rfl | simp [Act.eval]))
      refine C2.out.mono ?_
      rintro e w10 ⟨rfl, hE10, hK10⟩
      have HE10 := Lib.hid (hE10.sub (Z := fun k => k < H) (fun k hk => .inl hk))
      have HK10 := Lib.hid (HK9.out.trans (hK10.sub (fun k hk => .inl hk)))
      clear hE10 hK10 C2 HE9 HK9 hdb
      go_upto_region 12 with (fail)
      have hv0 := Go.heap_alloc_new w10 (.cells #[.int .i64 (r : Nat), .int .i64 0, .int .i64 2, .int .i64 (-1), .bool true, .bool false] 35)
      have hB11 : Below w10.heap.size w10 (w10.alloc (.cells #[.int .i64 (r : Nat), .int .i64 0, .int .i64 2, .int .i64 (-1), .bool true, .bool false] 35)) := (Below.refl _ _).alloc (Nat.le_refl _) _
      generalize w10.alloc (.cells #[.int .i64 (r : Nat), .int .i64 0, .int .i64 2, .int .i64 (-1), .bool true, .bool false] 35) = w11 at *
      generalize w10.heap.size = vb at hv0 ⊢
      have v4 := cells_of_row hv0 4 _ rfl
      have v2 := cells_of_row hv0 2 _ rfl
      have HK11 := Lib.hid (HK10.out.trans (Kp.of_below hB11))
      have hc := C17.out _ HK11.out
      have C3 := Lib.hid (engp_clock (HE10.out.below hB11) (now + bt) (by have := HBT0.out; omega) (by have := HBT0.out; have := HN.out; have := HT0.out; omega))
      clear hB11 hv0 HE10 HK10
      go_wp2_with fail
      refine C3.out.mono ?_
      rintro e w12 ⟨rfl, hE12, hK12⟩
      have HK12 := Lib.hid (HK11.out.trans hK12)
      have C4 := Lib.hid (ends_in hE12 ⟨HN.out.1, by have := HBT0.out; omega⟩ (by rw [HADD.out]; have := HBT0.out; omega))
      clear hc hK12 hE12 C3 HK11 v4 v2
      go_wp2_with fail
      refine C4.out.mono ?_
      rintro e w13 ⟨⟨B1, k1, rfl⟩, hE13, hK13⟩
      have HK13 := Lib.hid (HK12.out.trans hK13)
      have hc := C17.out _ HK13.out
      have C5 := Lib.hid (engp_clock hE13 (now + T - 1) (by have := HBT0.out; omega) (by have := HN.out; have := HT0.out; omega))
      clear hK13 hE13 C4 HK12
      go_wp2_with fail
      refine C5.out.mono ?_
      rintro e w14 ⟨rfl, hE14, hK14⟩
      have HK14 := Lib.hid (HK13.out.trans hK14)
      have C6 := Lib.hid (ends_in hE14 ⟨HN.out.1, by have := HT0.out; omega⟩ (by rw [HADD.out]; omega))
      clear hc hK14 hE14 C5 HK13
      go_wp2_with fail
      refine C6.out.mono ?_
      rintro e w15 ⟨⟨B2, k2, rfl⟩, hE15, hK15⟩
      have HK15 := Lib.hid (HK14.out.trans hK15)
      have hc := C17.out _ HK15.out
      have C7 := Lib.hid (engp_clock hE15 (now + T) (by omega) (by have := HN.out; have := HT0.out; omega))
      clear hK15 hE15 C6 HK14
      go_wp2_with fail
      refine C7.out.mono ?_
      rintro e w16 ⟨rfl, hE16, hK16⟩
      have HK16 := Lib.hid (HK15.out.trans hK16)
      have C8 := Lib.hid (ends_out hE16 ⟨HN.out.1, by have := HT0.out; omega⟩ (by rw [HADD.out]; exact Int.le_refl _))
      clear hc hK16 hE16 C7 HK15
      go_wp2_with fail
      refine C8.out.mono ?_
      rintro e w17 ⟨⟨B3, k3, rfl⟩, hE17, hK17⟩
      have HK17 := Lib.hid (HK16.out.trans hK17)
      have HE17 := Lib.hid hE17
      clear hK17 hE17 C8 HK16
      go_wp2_with fail
      refine ⟨⟨r + 1, now + T, now + T, by have := HN.out; omega, rfl, rfl, by have := HN.out; have := HT0.out; omega, Int.le_refl _, HNX.out, HE17.out, HK17.out⟩, ?_⟩
      simp only [intOf]
      omega
end Go.Proofs.YtpanmfdbdgecaaaGreat.C
