/- The law TopFair, walked. · The law TopFair: for whatever input. -/
import Derived.Test.YtpanmfdbdgecaaaGreatY17
namespace Go.Proofs.YtpanmfdbdgecaaaGreat.C
open Go.RowKit
set_option linter.unusedVariables false
def VZ0 : Array Value := #[.int .i64 0, .int .i64 0, .int .i64 0, .int .i64 0, .bool false, .bool false]
theorem vz0_zero : (Tryz.prog.info? 35).map (fun i => (i.zero, i.size)) = some (some (.agg VZ0), 6) := by kernel_rfl
set_option maxRecDepth 100000 in
set_option maxHeartbeats 8000000 in
theorem fair_main (kv : Array Value) (K : Nat → Nat) (qu : Int) (a2 : Option Addr) (L2 : List Int) (c2 : Nat) (w : World) (hk : Key16 kv K) (hr : (Lit.int .u16 qu).wf = true) (hn2 : L2.length ≤ 60) (hN2 : Nums .u16 w a2 L2) :
    Calls Tryz.prog 6 #[.agg kv, .int .u16 qu, .slice a2 L2.length c2] w fun e w' => e = .returned (.bool true) ∧ Below w.heap.size w w' := by
  obtain ⟨r0, r1⟩ := bounds_u16 hr
  clear hr
  have CA := Lib.hid awake_is
  have CL := Lib.hid little_is
  have HN2 := Lib.hid hN2
  have HKY := Lib.hid hk
  obtain ⟨n2, hl2⟩ : ∃ n, L2.length = n := ⟨_, rfl⟩
  have HL2 := Lib.hid hl2
  rw [hl2] at hn2 ⊢
  have d0 : decide (60 < n2) = false := decide_eq_false (by omega)
  have e0 : (n2 : Int) ≤ 60 := by omega
  have HNN := Lib.hid hn2
  obtain ⟨dz, hdz⟩ : ∃ z, DZ = z := ⟨_, rfl⟩
  have hdb := build_dz
  rw [hdz] at hdb
  have HDZ := Lib.hid hdz
  have HDB := Lib.hid hdb
  have hst := cz_zero
  have hcfg := cfg_all litC
  have HV := Lib.hid (cfgV_ok litC)
  have HC := Lib.hid fair_cfg
  have hc20 : (Tryz.prog.info? 26).map (·.size) = some (cfgV litC).size := by rw [(cfgV_ok litC).size]; exact cfg_size
  have hcz : CZ.size = (cfgV litC).size := (cfgV_ok _).size.trans (cfgV_ok litC).size.symm
  generalize cfgV litC = cv at *
  generalize CZ = Z at *
  have HST := Lib.hid hst
  have HCF := Lib.hid hcfg
  have HC20 := Lib.hid hc20
  have HCZ := Lib.hid hcz
  obtain ⟨VZ1, hVZ⟩ : ∃ z, VZ0 = z := ⟨_, rfl⟩
  have hvz := vz0_zero
  have hvzs : VZ1.size = 6 := by rw [← hVZ]; rfl
  rw [hVZ] at hvz
  have HVZ := Lib.hid hvz
  have HVZS := Lib.hid hvzs
  clear hst hcfg hc20 hcz hdb hdz hVZ hvz hvzs hN2 hl2 hn2
  have hw0 : IntKind.i64.wrap qu = qu := IntWalk.i64_in _ (by omega)
  obtain ⟨q, hq⟩ : ∃ q, 9216 + qu = q := ⟨_, rfl⟩
  have hw1 : IntKind.i64.wrap q = q := IntWalk.i64_in _ (by omega)
  have HQ9 := Lib.hid (show 9216 ≤ q ∧ q ≤ 80000 by omega)
  have HKS := Lib.hid hk.size
  clear r0 r1 hk
  go_enter Tryz.func6, Tryz.ntmps6
  go_upto_region 1 with ((with_reducible refine arm_box 3 0 22 kv rfl ?_); intro w1 HB1 HX1 HS1)
  obtain ⟨kb, hkb⟩ : ∃ k, k = w.heap.size := ⟨_, rfl⟩
  rw [← hkb] at HX1 ⊢
  have HKB := Lib.hid hkb
  clear hkb
  go_wp2_with fail
  refine (CA.out _).mono ?_
  rintro e w2 ⟨rfl, hB2⟩
  have HX2 := Lib.hid (show w2.heap[kb]? = some (.cells kv 22 (0, 0)) from (hB2.block kb (by have := HKB.out; have := HS1.out; omega)).trans HX1.out)
  have HB2 := Lib.hid (HB1.out.trans (hB2.mono HB1.out.size))
  clear hB2 HX1 CA
  go_wp2_with fail
  refine (CL.out _).mono ?_
  rintro e w3 ⟨rfl, hB3⟩
  have HX3 := Lib.hid (keep_block hB3 HX2.out)
  have HB3 := Lib.hid (HB2.out.trans (hB3.mono HB2.out.size))
  clear hB3 HX2 HB2 CL HB1 HS1
  obtain ⟨cb, hcb⟩ : ∃ c, c = w3.heap.size := ⟨_, rfl⟩
  have HK3 := Lib.hid (show kb < w3.heap.size from (Array.getElem?_eq_some_iff.1 HX3.out).1)
  go_upto_region 4 with (first | ((with_reducible refine arm_alloc 7 26 Z 20 HST.out ?_); intro w4 HB4 HX4 HS4; have hst := box_store (t := 26) (x := cv) HX4.out HC20.out HCF.out HCZ.out) | ((with_reducible refine arm_store 7 30 26 _ _ _ hst ?_ ?_ ?_); rfl; rfl))
  clear hst
  have hX5 := box_whole HX4.out (cs := cv) HCZ.out.symm
  have hB5 := below_setCells (b := w3.heap.size) (Nat.le_refl _) cv.toList 0 HB4.out
  rw [← hcb] at hX5 hB5 ⊢
  have HXK := Lib.hid (show (w4.setCells cb 0 cv.toList).heap[kb]? = some (.cells kv 22 (0, 0)) from (hB5.block kb (by have := HK3.out; omega)).trans HX3.out)
  have HB5 := Lib.hid (HB3.out.trans (hB5.mono (hcb ▸ HB3.out.size)))
  have HCB := Lib.hid (show w.heap.size ≤ cb from hcb ▸ HB3.out.size)
  have HNE := Lib.hid (show kb ≠ cb from by have := HK3.out; omega)
  clear hB5 HX4 HB4 HS4 HB3 HX3 HK3 hcb HCZ HST
  generalize w4.setCells cb 0 cv.toList = w5 at *
  have c0 := cells_of_row hX5 0 _ (HV.out.at_ 0 (by decide))
  have c1 := cells_of_row hX5 1 _ (HV.out.at_ 1 (by decide))
  have c8 := cells_of_row hX5 8 _ (HV.out.at_ 8 (by decide))
  have c9 := cells_of_row hX5 9 _ (HV.out.at_ 9 (by decide))
  have c12 := cells_of_row hX5 12 _ (HV.out.at_ 12 (by decide))
  have c6 := cells_of_row hX5 6 _ (HV.out.at_ 6 (by decide))
  have f0 := frozen_of_row _ _ 0 _ _ hX5
  have f1 := frozen_of_row _ _ 1 _ _ hX5
  have f8 := frozen_of_row _ _ 8 _ _ hX5
  have f9 := frozen_of_row _ _ 9 _ _ hX5
  have f12 := frozen_of_row _ _ 12 _ _ hX5
  have f6 := frozen_of_row _ _ 6 _ _ hX5
  have hX6 := heap_setCell_same _ _ 6 _ _ (.int .i64 64) (heap_setCell_same _ _ 12 _ _ (.int .i64 536870912) (heap_setCell_same _ _ 9 _ _ (.int .i64 536870912) (heap_setCell_same _ _ 8 _ _ (.int .i64 q) (heap_setCell_same _ _ 1 _ _ (.int .i64 300) (heap_setCell_same _ _ 0 _ _ (.int .i64 8) hX5)))))
  have hB6 := (((((HB5.out.setCell (p := ⟨cb, 0, none⟩) HCB.out (.int .i64 8)).setCell (p := ⟨cb, 1, none⟩) HCB.out (.int .i64 300)).setCell (p := ⟨cb, 8, none⟩) HCB.out (.int .i64 q)).setCell (p := ⟨cb, 9, none⟩) HCB.out (.int .i64 536870912)).setCell (p := ⟨cb, 12, none⟩) HCB.out (.int .i64 536870912)).setCell (p := ⟨cb, 6, none⟩) HCB.out (.int .i64 64)
  have hkk : ∀ (x : World) (i : Nat) (v : Value), x.heap[kb]? = some (.cells kv 22 (0, 0)) → (x.setCell ⟨cb, i, none⟩ v).heap[kb]? = some (.cells kv 22 (0, 0)) := fun x i v h => (heap_setCell_other _ _ _ _ HNE.out).trans h
  have hKA := hkk _ 6 (.int .i64 64) (hkk _ 12 (.int .i64 536870912) (hkk _ 9 (.int .i64 536870912) (hkk _ 8 (.int .i64 q) (hkk _ 1 (.int .i64 300) (hkk _ 0 (.int .i64 8) HXK.out)))))
  have HX6 := Lib.hid hX6
  have HB6 := Lib.hid hB6
  have HK6 := Lib.hid hKA
  have HV6 := Lib.hid (HC.out q)
  clear hX6 hB6 hkk hKA hX5 HC
  go_upto_region 5 with (fail)
  generalize ((((((w5.setCell ⟨cb, 0, none⟩ (.int .i64 8)).setCell ⟨cb, 1, none⟩ (.int .i64 300)).setCell ⟨cb, 8, none⟩ (.int .i64 q)).setCell ⟨cb, 9, none⟩ (.int .i64 536870912)).setCell ⟨cb, 12, none⟩ (.int .i64 536870912)).setCell ⟨cb, 6, none⟩ (.int .i64 64)) = w6 at *
  generalize ((((((cv.setIfInBounds 0 (Value.int .i64 8)).setIfInBounds 1 (.int .i64 300)).setIfInBounds 8 (.int .i64 q)).setIfInBounds 9 (.int .i64 536870912)).setIfInBounds 12 (.int .i64 536870912)).setIfInBounds 6 (.int .i64 64)) = cv at *
  clear c0 c1 c8 c9 c12 c6 f0 f1 f8 f9 f12 f6 HXK HB5 HV HCF HC20
  have hl1 := box_load (t := 26) HX6.out _ Tryz.underlying26 rfl (by rw [HV6.out.size]; exact cfg_size)
  have hl2 := keys_load HKS.out HK6.out
  have HLT := Lib.hid (show cb < w6.heap.size from (Array.getElem?_eq_some_iff.1 HX6.out).1)
  have CN := Lib.hid (fair_begin cv kv q w6 HV6.out HQ9.out HKS.out)
  go_wp2_with (first | ((with_reducible refine arm_load 41 7 26 (.pointer (some ⟨cb, 0, none⟩)) (.agg cv) hl1 ?_ ?_); rfl) | ((with_reducible refine arm_load 42 3 22 (.pointer (some ⟨kb, 0, none⟩)) (.agg kv) hl2 ?_ ?_); rfl))
  refine CN.out.mono ?_
  rintro e w7 ⟨A, G, sb, pc, rfl, hE, hlo, hB7⟩
  obtain ⟨H, hH⟩ : ∃ H, H = w6.heap.size := ⟨_, rfl⟩
  rw [← hH] at hlo
  have HX7 := Lib.hid (keep_block hB7 HX6.out)
  have HB7 := Lib.hid (HB6.out.trans (hB7.mono HB6.out.size))
  have HLO := Lib.hid (show w.heap.size ≤ H from hH ▸ HB6.out.size)
  have HHI := Lib.hid (show H ≤ w7.heap.size from hH ▸ hB7.size)
  have HTG := Lib.hid hlo
  have HTC := Lib.hid (hlo cb (hH ▸ HLT.out))
  have HE := Lib.hid hE
  have HFF := Lib.hid (fairF (G := G) HQ9.out HV6.out HKY.out)
  have CFG : Hid (∀ w' : World, w'.heap[cb]? = some (.cells cv 26 (0, 0)) → w'.cell? ⟨cb, 0, none⟩ = some (.int .i64 8) ∧ w'.cell? ⟨cb, 8, none⟩ = some (.int .i64 q)) := Lib.hid fun w' h => ⟨cells_of_row h 0 _ (HV6.out.at_ 0 (by decide)), cells_of_row h 8 _ (HV6.out.at_ 8 (by decide))⟩
  have HAOK := Lib.hid (show ∀ k, A.lim ≤ k → A.tg k = 0 from hE.pol.ok.hi)
  have KEEP : Hid (∀ w' : World, Tur A.tg [1, 3, 4, 5, 6, 7, 8, 9] w7 w' → ∀ b, b < w.heap.size → w'.heap[b]? = w.heap[b]?) := Lib.hid fun w' p b hb => (p.block b (by have := HLO.out; have := HHI.out; omega) (by rw [HTG.out b (by have := HLO.out; omega)]; decide)).trans (HB7.out.block b hb)
  clear hE hB7 hl1 hl2 HX6 HB6 HK6 hH HLT hw0 hw1 hq CN HV6 HCB HNE HKB hlo HKS
  generalize hF : (⟨cv, fairC q, kv, G⟩ : PCf) = F at *
  clear hF
  go_wp2_with fail
  go_loopw [48] (fun t wr => ∃ (k : Nat) (S : PSt), k ≤ 200 ∧ t = .int .i64 (k : Nat) ∧ Sch wr A sb pc F S 0 ∧ FA k S ∧ Tur A.tg [1, 3, 4, 5, 6, 7, 8, 9] w7 wr) (fun t _ => (200 - intOf t).toNat)
  case atStart => exact ⟨0, _, by omega, rfl, HE.out, fair_zero, Tur.refl _ _ _⟩
  case round =>
    obtain ⟨k, S, hk, rfl, hE, hFA, hT⟩ := hrel
    have HE8 := Lib.hid hE
    have HFA := Lib.hid hFA
    have HT := Lib.hid hT
    clear hE hFA hT HE
    by_cases hkn : k = 200
    · subst hkn
      have e200 : ((200 : Nat) : Int) = 200 := rfl
      rw [e200]
      have HGW := Lib.hid (HFA.out.w.start (q := q) (by have := HQ9.out; omega))
      have HB8 := Lib.hid (show wr.heap[cb]? = some (.cells cv 26 (0, 0)) from HT.out.keep HX7.out (by rw [HTC.out]; decide))
      obtain ⟨q0, q8⟩ := CFG.out wr HB8.out
      obtain ⟨gb, hgb⟩ : ∃ gb, gb = wr.heap.size := ⟨_, rfl⟩
      have hmk : (Instr.makeSlice 69 (.int .i64 16) (.int .i64 16)).run Tryz.prog wr = .ok (.slice (some ⟨gb, 0, none⟩) 16 16) (wr.alloc (.cells (gz (List.replicate 16 0)) 2)) := by
        rw [hgb]
        have := make_qrow 16 (by decide) wr
        have e : gz (List.replicate 16 0) = (List.replicate 16 (Value.int .i64 0)).toArray := by unfold gz; rw [List.map_replicate]
        rw [e]
        exact this
      have HGN : Hid ((wr.alloc (.cells (gz (List.replicate 16 0)) 2)).heap[gb]? = some (.cells (gz (List.replicate 16 0)) 2 (0, 0))) := Lib.hid (by rw [hgb]; exact Go.heap_alloc_new wr _)
      have HGA := Lib.hid (show Below wr.heap.size wr (wr.alloc (.cells (gz (List.replicate 16 0)) 2)) from (Below.refl _ _).alloc (Nat.le_refl _) _)
      have HGS := Lib.hid (show (wr.alloc (.cells (gz (List.replicate 16 0)) 2)).heap.size = gb + 1 by rw [hgb]; simp)
      have HGB := Lib.hid hgb
      have HG0 := Lib.hid (show A.tg gb = 0 from HAOK.out _ (by rw [hgb]; exact HE8.out.lim))
      clear hgb
      generalize hgz : gz (List.replicate 16 0) = gz0 at *
      have HGZ := Lib.hid hgz
      clear hgz
      go_upto_region 20 with (fail)
      clear hmk q0 q8
      generalize wr.alloc (.cells gz0 2) = w9 at *
      have hbz : (Tryz.prog.info? 70).map (fun i => (i.zero, i.size)) = some (some (.agg (bz fun _ => false)), 16) := by kernel_rfl
      have HZ := Lib.hid hbz
      clear hbz
      go_upto_region 21 with ((with_reducible refine arm_alloc 15 70 (bz fun _ => false) 16 HZ.out ?_); intro w8 HB10 HX10 HS10)
      obtain ⟨bb, hbb⟩ : ∃ bb, bb = w9.heap.size := ⟨_, rfl⟩
      rw [← hbb] at HX10 ⊢
      have HBB := Lib.hid (show bb = gb + 1 by rw [hbb]; exact HGS.out)
      have HE9 := Lib.hid ((HE8.out.below HGA.out).below HB10.out)
      have HT9 := Lib.hid ((HT.out.below HGA.out).below HB10.out)
      have HGR := Lib.hid (keep_block HB10.out HGN.out)
      have HC9 := Lib.hid (keep_block HB10.out (keep_block HGA.out HB8.out))
      have HB0 := Lib.hid (show A.tg bb = 0 from HAOK.out _ (by rw [hbb]; exact (HE8.out.below HGA.out).lim))
      have HLG := Lib.hid (show H ≤ gb by rw [HGB.out]; have := HHI.out; have := HT.out.size; omega)
      have HCL := Lib.hid (show cb < gb by rw [HGB.out]; exact (Array.getElem?_eq_some_iff.1 HB8.out).1)
      clear hbb HE8 HT HB8 HGN HGA HGS HGB HB10 HS10 HZ
      obtain ⟨T, hTT⟩ : ∃ T, T = C.exc (C.exc A.tg gb 13) bb 14 := ⟨_, rfl⟩
      have TG : Hid (T gb = 13 ∧ T bb = 14 ∧ T cb = 0 ∧ (∀ b, b < w.heap.size → T b = 0) ∧ (∀ b, b ≠ gb → b ≠ bb → T b = A.tg b)) := Lib.hid (by
        have h1 := HBB.out
        have h2 := HLG.out
        have h3 := HCL.out
        have h4 := HLO.out
        refine ⟨?_, ?_, ?_, fun b hb => ?_, fun b n1 n2 => ?_⟩
        · rw [hTT]
          show (if gb = bb then 14 else if gb = gb then 13 else A.tg gb) = 13
          rw [if_neg (by omega), if_pos rfl]
        · rw [hTT]
          show (if bb = bb then 14 else if bb = gb then 13 else A.tg bb) = 14
          rw [if_pos rfl]
        · rw [hTT]
          show (if cb = bb then 14 else if cb = gb then 13 else A.tg cb) = 0
          rw [if_neg (by omega), if_neg (by omega)]
          exact HTC.out
        · rw [hTT]
          show (if b = bb then 14 else if b = gb then 13 else A.tg b) = 0
          rw [if_neg (by omega), if_neg (by omega)]
          exact HTG.out b (by omega)
        · rw [hTT]
          show (if b = bb then 14 else if b = gb then 13 else A.tg b) = A.tg b
          rw [if_neg n2, if_neg n1])
      have TE : Hid (∀ {a b : World} {ks : List Nat}, Tur A.tg ks a b → Tur T (13 :: 14 :: ks) a b) := Lib.hid fun p => by
        rw [hTT]
        exact Tur.exc (Tur.exc (p.sub (js := 13 :: 14 :: _) (fun k hk => List.mem_cons_of_mem _ (List.mem_cons_of_mem _ hk))) (t := 13) (by simp)) (t := 14) (by simp)
      have TF : Hid (∀ w' : World, Tur T [1, 3, 4, 5, 6, 7, 8, 9, 12, 13, 14] w8 w' → (w'.cell? ⟨cb, 0, none⟩ = some (.int .i64 8) ∧ w'.cell? ⟨cb, 8, none⟩ = some (.int .i64 q)) ∧ Below w.heap.size w w') := Lib.hid fun w' p => by
        refine ⟨CFG.out w' (p.keep HC9.out (by rw [TG.out.2.2.1]; decide)), HB7.out.trans ⟨p.os.trans HT9.out.os, p.tape.trans HT9.out.tape, p.output.trans HT9.out.output, Nat.le_trans HT9.out.size p.size, fun b hb => ?_⟩⟩
        exact (p.block b (by have := HB7.out.size; have := HT9.out.size; omega) (by rw [TG.out.2.2.2.1 b hb]; decide)).trans (HT9.out.block b (by have := HB7.out.size; omega) (by rw [HTG.out b (by have := HLO.out; omega)]; decide))
      clear hTT
      have q0 := (TF.out w8 (Tur.refl _ _ _)).1.1
      go_wp2_with fail
      go_loopw [88] (fun t wr => ∃ b : Nat, b ≤ 16 ∧ t = .int .i64 (b : Nat) ∧ Sch wr A sb pc F S 0 ∧ wr.heap[gb]? = some (.cells gz0 2 (0, 0)) ∧ wr.heap[bb]? = some (.cells (bz fun i => decide (i < b) && has S.L i) 70 (0, 0)) ∧ Tur T [1, 3, 4, 5, 6, 7, 8, 9, 12, 13, 14] w8 wr) (fun t _ => (16 - intOf t).toNat)
      case atStart =>
        refine ⟨0, by omega, rfl, HE9.out, HGR.out, ?_, Tur.refl _ _ _⟩
        rw [HX10.out]
        rw [bz_congr (f := fun _ => false) (g := fun i => decide (i < 0) && has S.L i) (fun i _ => by simp)]
      case round =>
        obtain ⟨b, hb, rfl, hE, hGR, hBR, hT⟩ := hrel
        have HEB := Lib.hid hE
        have HGRB := Lib.hid hGR
        have HBRB := Lib.hid hBR
        have HTB := Lib.hid hT
        clear hE hGR hBR hT HE9 HGR HX10 q0
        by_cases hb16 : b = 16
        · subst hb16
          have e16 : ((16 : Nat) : Int) = 16 := rfl
          rw [e16]
          have HBR0 : Hid (wr.heap[bb]? = some (.cells (bz (has S.L)) 70 (0, 0))) := Lib.hid (by
            rw [HBRB.out]
            rw [bz_congr (f := fun i => decide (i < 16) && has S.L i) (g := has S.L) (fun i hi => by rw [decide_eq_true hi]; rfl)])
          clear HBRB
          have HGR0 : Hid (wr.heap[gb]? = some (.cells (gz (List.replicate 16 0)) 2 (0, 0))) := Lib.hid (by rw [HGZ.out]; exact HGRB.out)
          clear HGRB
          have hdz0 := dep_zero
          have hda := dep_size
          have h50 : (depC 0 0 0 0 0).size = 5 := rfl
          generalize depC 0 0 0 0 0 = D0 at *
          have HDZ0 := Lib.hid hdz0
          have HDS0 := Lib.hid h50
          have HDSZ := Lib.hid hda
          clear hdz0 hda h50
          go_wp2_with fail
          go_loopw [17, 100] (fun s t wr => ∃ (k : Nat) (S : PSt) (G : List Int) (now : Int), k ≤ 200 ∧ t = .int .i64 (k : Nat) ∧ s = .int .i64 now ∧ (0 ≤ now ∧ now ≤ (k : Int) * 18432) ∧ Sch wr A sb pc F S now ∧ GW q (200 - k) S G ∧ wr.heap[gb]? = some (.cells (gz G) 2 (0, 0)) ∧ wr.heap[bb]? = some (.cells (bz (has S.L)) 70 (0, 0)) ∧ Tur T [1, 3, 4, 5, 6, 7, 8, 9, 12, 13, 14] w8 wr) (fun _ t _ => (200 - intOf t).toNat)
          case atStart => exact ⟨0, S, _, 0, by omega, rfl, rfl, by omega, HEB.out, HGW.out, HGR0.out, HBR0.out, HTB.out⟩
          case round =>
            clear HGW HEB HTB HGR0 HBR0 HFA
            obtain ⟨k, S, G, now, hk, rfl, rfl, hnow, hE, hGW, hGR, hBR, hT⟩ := hrel
            have HEK := Lib.hid hE
            have HGW := Lib.hid hGW
            have HGR := Lib.hid hGR
            have HBR := Lib.hid hBR
            have HTK := Lib.hid hT
            have HNOW := Lib.hid hnow
            clear hE hGW hGR hBR hT
            by_cases hkn : k = 200
            · subst hkn
              have e200 : ((200 : Nat) : Int) = 200 := rfl
              rw [e200]
              clear hnow
              go_wp2
              go_ret
              exact ⟨rfl, (TF.out _ HTK.out).2⟩
            · have hlt : (k : Int) < 200 := by omega
              have HK2 := Lib.hid (show k < 200 by omega)
              have hkw : IntKind.i64.wrap ((k : Int) + 1) = ((k + 1 : Nat) : Int) := by rw [IntWalk.i64_in _ (by omega)]; omega
              obtain ⟨t, ht⟩ : ∃ t, 200 - k = t + 1 := ⟨200 - k - 1, by omega⟩
              have HTT := Lib.hid (show t < 200 ∧ 200 - (k + 1) = t by omega)
              have hgw := HGW.out
              rw [ht] at hgw
              obtain ⟨b0, hb0, hbo⟩ := hgw.b0
              have hc8 : F.c 8 = q := HFF.out.c8
              have CP0 := sch_poll K b0 HEK.out hnow.1 (by omega) (Int.le_refl _) ⟨HFF.out.c2, HFF.out.key⟩ HFF.out.c3 hb0 hbo (by rw [hc8]; exact hgw.may (by omega)) (by rw [hc8]; exact HQ9.out.1) (fun c hc => by rw [HFF.out.c0]; have := hgw.small c hc; omega) hgw.heads (by rw [HFF.out.c9, HFF.out.c10]; exact hgw.q.ok (by decide) (by decide) (by omega)) (by rw [hgw.tll]; decide)
              rw [hc8] at CP0
              have CP := Lib.hid CP0
              have HG1 := Lib.hid hgw
              have HB00 := Lib.hid hb0
              clear CP0 hgw hb0 hbo hc8 ht hk hkn hnow HGW
              go_wp2_with fail
              refine CP.out.mono ?_
              rintro e w9 ⟨c, l2, line2, x, l, n, s, rfl, hp, hL, hx, hE9, hT9⟩
              have hrg := hx.rng
              obtain ⟨hGW2, hbd⟩ := HG1.out.poll HTT.out.1 HQ9.out.1 HFF.out (now := now) ⟨HNOW.out.1, by have := HNOW.out; have := HK2.out; omega⟩ HB00.out hp hL hx
              obtain ⟨_, _, _, _, _, _, hmem⟩ := hp.head
              have hc8 := HG1.out.small c hmem
              have hfin : addC now (mulC n (F.c 11)) = now + n * 2 := by
                rw [HFF.out.c11]
                exact fin_is hrg (by have := HNOW.out; have := HK2.out; omega)
              rw [hfin] at hE9 ⊢
              obtain ⟨fin, hfi⟩ : ∃ fin, now + n * 2 = fin := ⟨_, rfl⟩
              have HFIN := Lib.hid (show 0 ≤ fin ∧ fin ≤ ((k + 1 : Nat) : Int) * 18432 by have := HNOW.out; omega)
              rw [hfi] at hE9 ⊢
              obtain ⟨S2, hS2⟩ : ∃ S2, polledS F S n now c l2 line2 l b0 = S2 := ⟨_, rfl⟩
              have hS2L : S2.L = S.L.set c l := by rw [← hS2]; rfl
              rw [hS2] at hE9 hGW2
              obtain ⟨g0, hg0⟩ : ∃ g0, G[c]? = some g0 := ⟨_, List.getElem?_eq_getElem (by rw [HG1.out.Gl]; omega)⟩
              have hgd : G.getD c 0 = g0 := by rw [List.getD_eq_getElem?_getD, hg0]; rfl
              rw [hgd] at hGW2 hbd
              have hgr := HG1.out.gb g0 (List.mem_of_getElem? hg0)
              obtain ⟨G2, hG2⟩ : ∃ G2, G.set c (g0 + n) = G2 := ⟨_, rfl⟩
              rw [hG2] at hGW2 hbd
              have HGW2 := Lib.hid hGW2
              have HBD := Lib.hid (show ∀ a d, has S.L a = true → has S.L d = true → G2.getD a 0 - G2.getD d 0 ≤ q + 18432 from fun a d ha hd => hbd a d (has_line HG1.out ha) (has_line HG1.out hd))
              have HE9 := Lib.hid hE9
              have HT9 := Lib.hid (HTK.out.trans ((TE.out hT9).sub (js := [1, 3, 4, 5, 6, 7, 8, 9, 12, 13, 14]) (by decide)))
              have HGR9 := Lib.hid (hT9.keep HGR.out (by rw [HG0.out]; decide))
              have HBR9 := Lib.hid (hT9.keep HBR.out (by rw [HB0.out]; decide))
              have HC8 := Lib.hid hc8
              have HG2 := Lib.hid hG2
              have HG00 := Lib.hid hg0
              have HS2L := Lib.hid hS2L
              have hD5 : (depC s (c : Nat) n now fin).size = 5 := rfl
              have hda := dep_all s (c : Nat) n now fin
              have hD1 : (depC s (c : Nat) n now fin)[1]? = some (.int .i64 (c : Nat)) := rfl
              have hD2 : (depC s (c : Nat) n now fin)[2]? = some (.int .i64 n) := rfl
              have hD4 : (depC s (c : Nat) n now fin)[4]? = some (.int .i64 fin) := rfl
              generalize depC s (c : Nat) n now fin = D at *
              have HD5 := Lib.hid (show D0.size = D.size by rw [HDS0.out, hD5])
              have HDI := Lib.hid (show (Tryz.prog.info? 74).map (·.size) = some D.size by rw [hD5]; exact HDSZ.out)
              have HDA := Lib.hid hda
              have HD1 := Lib.hid hD1
              have HD2 := Lib.hid hD2
              have HD4 := Lib.hid hD4
              have hwg : IntKind.i64.wrap (g0 + n) = g0 + n := IntWalk.i64_in _ (by omega)
              have HWG := Lib.hid hwg
              clear hp hL hx hE9 hT9 hGW2 hbd hmem hfin hfi hS2 hS2L hg0 hgd hgr hG2 hD5 hda hD1 hD2 hD4 hwg HGR HBR HTK HEK HG1 HB00 CP hrg hc8
              go_upto_region 30 with (first | ((with_reducible refine arm_alloc 18 74 D0 5 HDZ0.out ?_); intro w10 HB10 HX10 HS10; have hst := box_store (t := 74) (x := D) HX10.out HDI.out HDA.out HD5.out) | ((with_reducible refine arm_store 18 106 74 _ _ _ hst ?_ ?_ ?_); rfl; rfl))
              have hX11 := box_whole HX10.out (cs := D) HD5.out.symm
              have hB11 := below_setCells (b := w9.heap.size) (Nat.le_refl _) D.toList 0 HB10.out
              have HD0 := Lib.hid (show A.tg w9.heap.size = 0 from HAOK.out _ HE9.out.lim)
              have HDN := Lib.hid (show gb < w9.heap.size ∧ bb < w9.heap.size from ⟨(Array.getElem?_eq_some_iff.1 HGR9.out).1, (Array.getElem?_eq_some_iff.1 HBR9.out).1⟩)
              have HE11 := Lib.hid (HE9.out.below hB11)
              have HT11 := Lib.hid (HT9.out.below hB11)
              have HGR11 := Lib.hid (keep_block hB11 HGR9.out)
              have HBR11 := Lib.hid (keep_block hB11 HBR9.out)
              have HX11 := Lib.hid hX11
              clear hst hB11 hX11 HB10 HX10 HS10 HE9 HT9 HGR9 HBR9
              generalize w10.setCells w9.heap.size 0 D.toList = w11 at *
              generalize w9.heap.size = db at *
              have d1 := cells_of_row HX11.out 1 _ HD1.out
              have d2 := cells_of_row HX11.out 2 _ HD2.out
              have d4 := cells_of_row HX11.out 4 _ HD4.out
              obtain ⟨q0, q8⟩ := (TF.out _ HT11.out).1
              have hcI : ¬ ((16 : Int) ≤ (c : Int)) := by have := HC8.out; omega
              have hcD : decide ((16 : Int) ≤ (c : Int)) = false := decide_eq_false hcI
              have hcL : (c : Int) < 16 := by have := HC8.out; omega
              have g1 := cells_of_row HGR11.out c _ (gz_at G HG00.out)
              have gf := frozen_of_row _ _ c _ _ HGR11.out
              have hwg := HWG.out
              have hG12 := heap_setCell_same _ _ c _ _ (.int .i64 (g0 + n)) HGR11.out
              rw [gz_set, HG2.out] at hG12
              have hT12 : Two gb gb w11 (w11.setCell ⟨gb, c, none⟩ (.int .i64 (g0 + n))) := Two.setCell (g := gb) (h := gb) (x := ⟨gb, c, none⟩) (Two.refl _ _ _) (.inl rfl) _
              have HG12 := Lib.hid hG12
              have HE12 := Lib.hid (HE11.out.tur (ks := [0]) (Tur.of_two hT12 (by rw [HG0.out]; simp) (by rw [HG0.out]; simp)) (by intro k h1 h2; simp; omega))
              have HB12 := Lib.hid ((hT12.block bb (Array.getElem?_eq_some_iff.1 HBR11.out).1 (by have := HBB.out; omega) (by have := HBB.out; omega)).trans HBR11.out)
              have HX12 := Lib.hid ((hT12.block db (Array.getElem?_eq_some_iff.1 HX11.out).1 (by have := HDN.out; omega) (by have := HDN.out; omega)).trans HX11.out)
              have HT12 := Lib.hid (HT11.out.trans (Tur.of_two (ks := [1, 3, 4, 5, 6, 7, 8, 9, 12, 13, 14]) hT12 (by rw [TG.out.1]; decide) (by rw [TG.out.1]; decide)))
              clear hG12 hT12 HGR11 HE11 HBR11 HX11 HT11
              go_upto_region 32 with (fail)
              clear hcD hcI q0 q8
              go_region
              generalize w11.setCell ⟨gb, c, none⟩ (.int .i64 (g0 + n)) = w12 at *
              clear g1 gf hwg d1 d2 d4 e200
              have d4 := cells_of_row HX12.out 4 _ HD4.out
              have BW : Hid (∀ w', Below w12.heap.size w12 w' → (∀ a, a < 16 → w'.cell? ⟨bb, a, none⟩ = some (.bool (has S.L a))) ∧ (∀ a, a < 16 → w'.cell? ⟨gb, a, none⟩ = some (.int .i64 (G2.getD a 0))) ∧ w'.cell? ⟨cb, 8, none⟩ = some (.int .i64 q)) := Lib.hid fun w' p => by
                refine ⟨fun a ha => cells_of_row (keep_block p HB12.out) a _ (bz_at _ ha), fun a ha => ?_, (TF.out _ (HT12.out.below p)).1.2⟩
                have hl : a < G2.length := by rw [HGW2.out.Gl]; exact ha
                refine cells_of_row (keep_block p HG12.out) a _ (gz_at G2 ?_)
                rw [List.getD_eq_getElem?_getD, List.getElem?_eq_getElem hl]
                rfl
              have GBD : Hid (∀ a, a < 16 → -2000000 ≤ G2.getD a 0 ∧ G2.getD a 0 ≤ 2000000) := Lib.hid fun a ha => by
                have hl : a < G2.length := by rw [HGW2.out.Gl]; exact ha
                have := HGW2.out.gb (G2.getD a 0) (by rw [List.getD_eq_getElem?_getD, List.getElem?_eq_getElem hl]; exact List.getElem_mem hl)
                omega
              go_wp2_with fail
              go_loopw [134] (fun t wr => ∃ a : Nat, a ≤ 16 ∧ t = .int .i64 (a : Nat) ∧ Below w12.heap.size w12 wr) (fun t _ => (16 - intOf t).toNat)
              case atStart => exact ⟨0, by omega, rfl, (Below.refl _ _).drew⟩
              case round =>
                clear d4
                obtain ⟨a, ha, rfl, hB⟩ := hrel
                have HBA := Lib.hid hB
                clear hB
                by_cases ha16 : a = 16
                · subst ha16
                  have e16 : ((16 : Nat) : Int) = 16 := rfl
                  rw [e16]
                  clear e16 ha
                  have HE13 := Lib.hid (HE12.out.below HBA.out)
                  have HG13 := Lib.hid (keep_block HBA.out HG12.out)
                  have HB13 := Lib.hid (keep_block HBA.out HB12.out)
                  have HX13 := Lib.hid (keep_block HBA.out HX12.out)
                  have HT13 := Lib.hid (HT12.out.below HBA.out)
                  obtain ⟨m, hm⟩ : ∃ m, (clsS S2.L (c : Nat)).length = m := ⟨_, rfl⟩
                  obtain ⟨v, hv⟩ : ∃ v, decide (0 < m) = v := ⟨_, rfl⟩
                  have hv2 : decide ((0 : Int) < (m : Int)) = v := by rw [← hv]; exact decide_eq_decide.2 (by omega)
                  have HHV := Lib.hid (show has S2.L c = v by unfold has; rw [hm]; exact hv)
                  have CC : Hid (∀ w', Pol w' A F S2 → Calls Tryz.prog 22 #[.pointer (some ⟨A.pb, 0, none⟩), .int .i64 (c : Nat)] w' fun e w'' => ∃ v, e = .returned v ∧ w''.ownsRow w'.heap.size 68 46 v m (pktsL (clsS S2.L (c : Nat))) ∧ Below w'.heap.size w' w'') := Lib.hid fun w' h => by
                    have := police_class (c : Nat) h
                    rw [hm] at this
                    exact this
                  have HTD := Lib.hid (show T db = 0 by rw [TG.out.2.2.2.2 db (by have := HDN.out; omega) (by have := HDN.out; omega)]; exact HD0.out)
                  have HL : Hid (∀ w', Tur T [14] wr w' → w'.cell? ⟨db, 1, none⟩ = some (.int .i64 (c : Nat))) := Lib.hid fun w' p => cells_of_row (p.keep HX13.out (by rw [HTD.out]; decide)) 1 _ HD1.out
                  have hcL2 := hcL
                  clear hm HBA BW GBD HE12 HG12 HB12 HX12 HT12 HBD
                  go_wp2_with fail
                  refine wp_region_held_drew (S := Tur T [14] wr) (by kernel_rfl) (Tur.refl _ _ _).drew (fun hHeld => ?_)
                  refine wpAnyH_take (i := 0) (oi := ⟨some 167, _, _, _, _, _⟩) (v := ?_) rfl (by kernel_rfl) (by kernel_rfl) (by kernel_rfl) (fun _ _ _ h => h) (Or.inl ⟨by rfl, ?_⟩) hHeld ?_
                  rotate_left
                  · intro w hSw
                    go_simp
                    try with_reducible rfl
                  try simp only [Act.put, List.setIfInBounds_toArray, List.set_cons_zero, List.set_cons_succ]
                  refine wpAnyH_take (i := 1) (oi := ⟨some 168, _, _, _, _, _⟩) (v := ?_) rfl (by kernel_rfl) (by kernel_rfl) (by kernel_rfl) (fun _ _ _ h => h) (Or.inl ⟨by rfl, ?_⟩) hHeld ?_
                  rotate_left
                  · intro w hSw
                    obtain k0 := HL.out w hSw
                    go_simp
                    try with_reducible rfl
                  try simp only [Act.put, List.setIfInBounds_toArray, List.set_cons_zero, List.set_cons_succ]
                  refine wpAnyH_take (i := 2) (oi := ⟨some 169, _, _, _, _, _⟩) (v := ?_) rfl (by kernel_rfl) (by kernel_rfl) (by kernel_rfl) (fun _ _ _ h => h) (Or.inl ⟨by rfl, ?_⟩) hHeld ?_
                  rotate_left
                  · intro w hSw
                    go_simp
                    try with_reducible rfl
                  try simp only [Act.put, List.setIfInBounds_toArray, List.set_cons_zero, List.set_cons_succ]
                  refine wpAnyH_take (i := 4) (oi := ⟨some 171, _, _, _, _, _⟩) (v := ?_) rfl (by kernel_rfl) (by kernel_rfl) (by kernel_rfl) (fun _ _ _ h => h) (Or.inl ⟨by rfl, ?_⟩) hHeld ?_
                  rotate_left
                  · intro w hSw
                    go_simp
                    try with_reducible rfl
                  try simp only [Act.put, List.setIfInBounds_toArray, List.set_cons_zero, List.set_cons_succ]
                  refine wpAnyH_take (i := 5) (oi := ⟨some 172, _, _, _, _, _⟩) (v := ?_) rfl (by kernel_rfl) (by kernel_rfl) (by kernel_rfl) (fun _ _ _ h => h) (Or.inl ⟨by rfl, ?_⟩) hHeld ?_
                  rotate_left
                  · intro w hSw
                    obtain k0 := HL.out w hSw
                    go_simp
                    try with_reducible rfl
                  try simp only [Act.put, List.setIfInBounds_toArray, List.set_cons_zero, List.set_cons_succ]
                  refine wpAnyH_ready (rs := [3]) (by kernel_rfl) (by simp) ?_
                  refine AllReadyH.cons rfl (fun K hK => ?_) AllReadyH.nil
                  go_simp
                  go_wp2_with (go_at_call 19; go_must (refine (sch_police HE13.out.drew).mono ?_; rintro e w3 ⟨rfl, rfl⟩))
                  refine hK.out _ _ (hHeld) (fun hHeld => ?_)
                  clear hK K
                  refine wpAnyH_ready (rs := [6]) (by kernel_rfl) (by simp) ?_
                  refine AllReadyH.cons rfl (fun K hK => ?_) AllReadyH.nil
                  go_simp
                  go_wp2_with (go_at_call 22; go_must (refine (CC.out _ HE13.out.drew.pol).mono ?_; rintro e w6 ⟨vv, rfl, hown, hB14⟩))
                  refine hK.out _ _ (hHeld.below hB14) (fun hHeld => ?_)
                  clear hK K
                  obtain ⟨A2, cap2, rfl⟩ := OW.slice hown
                  have hc16 : c < 16 := by have := HC8.out; omega
                  have hb6 := keep_block hB14 (show wr.drew.heap[bb]? = _ from HB13.out)
                  have cb6 := cells_of_row hb6 c _ (bz_at _ hc16)
                  have fb6 := frozen_of_row _ _ c _ _ hb6
                  have HE6 := Lib.hid (HE13.out.drew.below hB14)
                  have HG6 := Lib.hid (keep_block hB14 (show wr.drew.heap[gb]? = _ from HG13.out))
                  have hB15 := heap_setCell_same _ _ c _ _ (.bool v) hb6
                  rw [bz_set _ hc16, bz_congr (g := has S2.L) (fun i _ => by
                    by_cases e : i = c
                    · subst e
                      rw [if_pos rfl, HHV.out]
                    · rw [if_neg e, HS2L.out, has_set e])] at hB15
                  have HB15 := Lib.hid hB15
                  have hT15 : Two bb bb w6 (w6.setCell ⟨bb, c, none⟩ (.bool v)) := Two.setCell (g := bb) (h := bb) (x := ⟨bb, c, none⟩) (Two.refl _ _ _) (.inl rfl) _
                  have HE15 := Lib.hid (HE6.out.tur (ks := [0]) (Tur.of_two hT15 (by rw [HB0.out]; simp) (by rw [HB0.out]; simp)) (by intro k h1 h2; simp; omega))
                  have HG15 := Lib.hid ((hT15.block gb (Array.getElem?_eq_some_iff.1 HG6.out).1 (by have := HBB.out; omega) (by have := HBB.out; omega)).trans HG6.out)
                  have HTS := Lib.hid (Tur.of_two (f := T) (ks := [14]) hT15 (by rw [TG.out.2.1]; simp) (by rw [TG.out.2.1]; simp))
                  clear hb6 hB15 hT15 hown hB14 hc16
                  refine wpAnyH_take (i := 7) (oi := ⟨some 174, _, _, _, _, _⟩) (v := ?_) rfl (by kernel_rfl) (by kernel_rfl) (by kernel_rfl) (fun _ _ _ h => h) (Or.inl ⟨by rfl, ?_⟩) hHeld ?_
                  rotate_left
                  · intro w hSw
                    go_simp
                    try with_reducible rfl
                  try simp only [Act.put, List.setIfInBounds_toArray, List.set_cons_zero, List.set_cons_succ]
                  refine wpAnyH_take (i := 8) (oi := ⟨some 175, _, _, _, _, _⟩) (v := ?_) rfl (by kernel_rfl) (by kernel_rfl) (by kernel_rfl) (fun _ _ _ h => h) (Or.inl ⟨by rfl, ?_⟩) hHeld ?_
                  rotate_left
                  · intro w hSw
                    go_simp
                    try with_reducible rfl
                  try simp only [Act.put, List.setIfInBounds_toArray, List.set_cons_zero, List.set_cons_succ]
                  refine wpAnyH_take (i := 9) (oi := ⟨some 176, _, _, _, _, _⟩) (v := ?_) rfl (by kernel_rfl) (by kernel_rfl) (by kernel_rfl) (fun _ _ _ h => h) (Or.inl ⟨by rfl, ?_⟩) hHeld ?_
                  rotate_left
                  · intro w hSw
                    go_simp
                    try with_reducible rfl
                  try simp only [Act.put, List.setIfInBounds_toArray, List.set_cons_zero, List.set_cons_succ]
                  refine wpAnyH_ready (rs := [10]) (by kernel_rfl) (by simp) ?_
                  refine AllReadyH.cons rfl (fun K hK => ?_) AllReadyH.nil
                  go_simp
                  refine hK.out _ _ (hHeld.trans HTS.out) (fun hHeld => ?_)
                  clear hK K
                  refine wpAnyH_done (by kernel_rfl) ?_ _
                  try simp only [Act.put, List.setIfInBounds_toArray, List.set_cons_zero, List.set_cons_succ]
                  have HT15 := Lib.hid (HT13.out.trans (hHeld.sub (js := [1, 3, 4, 5, 6, 7, 8, 9, 12, 13, 14]) (by simp)))
                  have hrel1 := HTT.out.2
                  have HGW3 : Hid (GW q (200 - (k + 1)) S2 G2) := Lib.hid (by rw [hrel1]; exact HGW2.out)
                  clear hHeld hrel1 cb6 fb6 hv hv2 HTS HE6 HG6
                  generalize w6.setCell ⟨bb, c, none⟩ (.bool v) = w15 at *
                  go_wp2
                  go_roundw
                  case rel => exact ⟨k + 1, S2, G2, fin, by have := HK2.out; omega, by go_num, rfl, HFIN.out, HE15.out, HGW3.out, HG15.out, HB15.out, HT15.out⟩
                  case measure => have := HK2.out; simp [intOf]; omega
                · have halt : (a : Int) < 16 := by omega
                  have hkwa : IntKind.i64.wrap ((a : Int) + 1) = ((a + 1 : Nat) : Int) := by rw [IntWalk.i64_in _ (by omega)]; omega
                  have HAL := Lib.hid (show a < 16 by omega)
                  clear ha ha16
                  go_wp2_with fail
                  go_loopw [139] (fun t wr2 => ∃ b : Nat, b ≤ 16 ∧ t = .int .i64 (b : Nat) ∧ Below w12.heap.size w12 wr2) (fun t _ => (16 - intOf t).toNat)
                  case atStart => exact ⟨0, by omega, rfl, HBA.out⟩
                  case round =>
                    clear HBA
                    obtain ⟨b, hb, rfl, hB⟩ := hrel
                    have HBA := Lib.hid hB
                    by_cases hb16 : b = 16
                    · subst hb16
                      have e16 : ((16 : Nat) : Int) = 16 := rfl
                      rw [e16]
                      clear e16 hb hB
                      go_wp2
                      go_roundw
                      case rel => exact ⟨a + 1, by have := HAL.out; omega, by go_num, HBA.out⟩
                      case measure => have := HAL.out; simp [intOf]; omega
                    · have hblt : (b : Int) < 16 := by omega
                      have hkwb : IntKind.i64.wrap ((b : Int) + 1) = ((b + 1 : Nat) : Int) := by rw [IntWalk.i64_in _ (by omega)]; omega
                      have HBL := Lib.hid (show b < 16 by omega)
                      obtain ⟨b1, b2, b3⟩ := BW.out _ hB
                      have ca := b1 a HAL.out
                      have cb' := b1 b HBL.out
                      have ga := b2 a HAL.out
                      have gb' := b2 b HBL.out
                      have ra := GBD.out a HAL.out
                      have rb := GBD.out b HBL.out
                      have hbd := HBD.out a b
                      clear b1 b2 hb hb16 hB
                      have HBN := Lib.hid (fun n => below_drewN HBA.out n)
                      generalize G2.getD a 0 = va at *
                      generalize G2.getD b 0 = vb at *
                      have hw1 : IntKind.i64.wrap (va - vb) = va - vb := IntWalk.i64_in _ (by omega)
                      have hw2 : IntKind.i64.wrap (q + 18432) = q + 18432 := IntWalk.i64_in _ (by have := HQ9.out; omega)
                      cases hfa : has S.L a with
                      | false =>
                        rw [hfa] at ca
                        clear hbd ra rb hfa
                        go_wp2_with fail
                        go_quiet (fail)
                        go_wp2
                        go_roundw
                        case rel => exact ⟨b + 1, by have := HBL.out; omega, by go_num, HBN.out _⟩
                        case measure => have := HBL.out; simp [intOf]; omega
                      | true =>
                        rw [hfa] at ca
                        cases hfb : has S.L b with
                        | false =>
                          rw [hfb] at cb'
                          clear hbd ra rb hfa hfb
                          go_wp2_with fail
                          go_quiet (fail)
                          go_wp2
                          go_roundw
                          case rel => exact ⟨b + 1, by have := HBL.out; omega, by go_num, HBN.out _⟩
                          case measure => have := HBL.out; simp [intOf]; omega
                        | true =>
                          rw [hfb] at cb'
                          have hle := hbd hfa hfb
                          have hdd : decide (q + 18432 < va - vb) = false := decide_eq_false (by omega)
                          have hdn : ¬ (q + 18432 < va - vb) := by omega
                          clear hbd ra rb hfa hfb hle
                          go_wp2_with fail
                          go_quiet (fail)
                          go_wp2
                          go_roundw
                          case rel => exact ⟨b + 1, by have := HBL.out; omega, by go_num, HBN.out _⟩
                          case measure => have := HBL.out; simp [intOf]; omega
        · have hlt : (b : Int) < 16 := by omega
          have hkw : IntKind.i64.wrap ((b : Int) + 1) = ((b + 1 : Nat) : Int) := by rw [IntWalk.i64_in _ (by omega)]; omega
          have HBL := Lib.hid (show b < 16 by omega)
          obtain ⟨n, hn⟩ : ∃ n, (clsS S.L (b : Nat)).length = n := ⟨_, rfl⟩
          obtain ⟨v, hv⟩ : ∃ v, decide (0 < n) = v := ⟨_, rfl⟩
          have hv2 : decide ((0 : Int) < (n : Int)) = v := by rw [← hv]; exact decide_eq_decide.2 (by omega)
          have HHV := Lib.hid (show has S.L b = v by unfold has; rw [hn]; exact hv)
          have CC := Lib.hid (police_class (b : Nat) HEB.out.pol)
          rw [hn] at CC
          have CPO := Lib.hid (sch_police HEB.out)
          clear hn hb hb16
          go_wp2_with fail
          refine CPO.out.mono ?_
          rintro e w10 ⟨rfl, hw⟩
          replace hw := hw.symm
          subst hw
          go_wp2_with fail
          refine CC.out.mono ?_
          rintro e w11 ⟨vv, rfl, hown, hB11⟩
          obtain ⟨A2, cap2, rfl⟩ := OW.slice hown
          have HE11 := Lib.hid (HEB.out.below hB11)
          have HG11 := Lib.hid (keep_block hB11 HGRB.out)
          have hb11 := keep_block hB11 HBRB.out
          have HT11 := Lib.hid (HTB.out.below hB11)
          have cb1 := cells_of_row hb11 b _ (bz_at _ HBL.out)
          have fb1 := frozen_of_row _ _ b _ _ hb11
          have hB12 := heap_setCell_same _ _ b _ _ (.bool v) hb11
          rw [bz_set _ HBL.out, bz_congr (g := fun i => decide (i < b + 1) && has S.L i) (fun i _ => by
            by_cases e : i = b
            · subst e
              rw [if_pos rfl, HHV.out, decide_eq_true (by omega)]
              rfl
            · rw [if_neg e]
              congr 1
              exact decide_eq_decide.2 (by omega))] at hB12
          have HB12 := Lib.hid hB12
          have hT12 : Two bb bb w11 (w11.setCell ⟨bb, b, none⟩ (.bool v)) := Two.setCell (g := bb) (h := bb) (x := ⟨bb, b, none⟩) (Two.refl _ _ _) (.inl rfl) _
          have HE12 := Lib.hid (HE11.out.tur (ks := [0]) (Tur.of_two hT12 (by rw [HB0.out]; simp) (by rw [HB0.out]; simp)) (by intro k h1 h2; simp; omega))
          have HG12 := Lib.hid ((hT12.block gb (Array.getElem?_eq_some_iff.1 HG11.out).1 (by have := HBB.out; omega) (by have := HBB.out; omega)).trans HG11.out)
          have HT12 := Lib.hid (HT11.out.trans (Tur.of_two (ks := [1, 3, 4, 5, 6, 7, 8, 9, 12, 13, 14]) hT12 (by rw [TG.out.2.1]; decide) (by rw [TG.out.2.1]; decide)))
          clear hown hB11 hb11 hB12 hT12 HE11 HG11 HT11 CC CPO HEB HGRB HBRB HTB
          go_wp2
          go_roundw
          case rel => exact ⟨b + 1, by have := HBL.out; omega, by go_num, HE12.out, HG12.out, HB12.out, HT12.out⟩
          case measure => have := HBL.out; simp [intOf]; omega
    · have hlt : (k : Int) < 200 := by omega
      have HK2 := Lib.hid (show k < 200 by omega)
      have hkw : IntKind.i64.wrap ((k : Int) + 1) = ((k + 1 : Nat) : Int) := by rw [IntWalk.i64_in _ (by omega)]; omega
      obtain ⟨nn, hnn⟩ : ∃ nn, nn = k % 20 := ⟨_, rfl⟩
      have hr20 : ((k : Int)).tmod 20 = (nn : Int) := by rw [Int.tmod_eq_emod_of_nonneg (by omega)]; omega
      have hr202 : (k : Int) % 20 = (nn : Int) := by omega
      have hw20 : IntKind.i64.wrap (nn : Int) = (nn : Int) := IntWalk.i64_in _ (by omega)
      have hu20 : IntKind.u8.wrap (nn : Int) = (nn : Int) := by rw [IntKind.wrap_u8]; omega
      have HMOD := Lib.hid hnn
      have hkk200 := hk
      clear hnn hk hkn
      go_upto_if 53 with (fail)
      go_cut [11] from 53 to 63 (fun s wc => ∃ ln : Int, s = .int .i64 ln ∧ (1 ≤ ln ∧ ln ≤ 9216) ∧ wr = wc)
      case first =>
        by_cases h0 : n2 = 0
        · have hz : ¬ ((0 : Int) < (n2 : Int)) := by omega
          have hzd : decide ((0 : Int) < (n2 : Int)) = false := decide_eq_false hz
          clear h0
          go_wp2_with fail
          go_meet
          case rel => exact ⟨100, rfl, by omega, rfl⟩
        · have hz : (0 : Int) < (n2 : Int) := by omega
          have hz2 : ¬ ((n2 : Int) = 0) := by omega
          have hzd : decide ((0 : Int) < (n2 : Int)) = true := decide_eq_true hz
          obtain ⟨j, hj⟩ : ∃ j, j = k % n2 := ⟨_, rfl⟩
          have hjn : j < n2 := by rw [hj]; exact Nat.mod_lt _ (by omega)
          have hrj : ((k : Int)).tmod (n2 : Int) = (j : Int) := by rw [Int.tmod_eq_emod_of_nonneg (by omega), hj]; exact (Int.natCast_emod k n2).symm
          have hrj2 : (k : Int) % (n2 : Int) = (j : Int) := by rw [hj]; exact (Int.natCast_emod k n2).symm
          have hwj : IntKind.i64.wrap (j : Int) = (j : Int) := IntWalk.i64_in _ (by have := HNN.out; omega)
          have hjI : (j : Int) < (n2 : Int) := by omega
          obtain ⟨v, hv⟩ : ∃ v, L2[j]? = some v := ⟨_, List.getElem?_eq_getElem (by have := HL2.out; omega)⟩
          obtain ⟨x2, ha2, hc2, hf2⟩ := HN2.out.kept (KEEP.out _ HT.out) hv
          obtain ⟨v0, v1⟩ := bounds_u16 hf2
          have hwv : IntKind.i64.wrap v = v := IntWalk.i64_in _ (by omega)
          obtain ⟨r9, hr9⟩ : ∃ r9, v.tmod 9000 = r9 := ⟨_, rfl⟩
          have hr90 : 0 ≤ r9 ∧ r9 < 9000 := by rw [Int.tmod_eq_emod_of_nonneg v0] at hr9; omega
          have hwr9 : IntKind.i64.wrap r9 = r9 := IntWalk.i64_in _ (by omega)
          obtain ⟨ln, hln⟩ : ∃ ln : Int, 42 + r9 = ln := ⟨_, rfl⟩
          have hwln : IntKind.i64.wrap ln = ln := IntWalk.i64_in _ (by omega)
          have HLN := Lib.hid (show 1 ≤ ln ∧ ln ≤ 9216 by omega)
          subst ha2
          clear hj hjn hv hf2 v0 v1 hr90 h0
          go_wp2_with fail
          go_meet
          case rel => exact ⟨ln, rfl, HLN.out, rfl⟩
      case rest =>
        obtain ⟨ln, rfl, hlnr, hwc⟩ := hcut
        subst hwc
        have HLN := Lib.hid hlnr
        clear hlnr
        obtain ⟨FL, hFL⟩ : ∃ FL, flowX 10 1 nn 7 9 0 0 0 1000 53 = FL := ⟨_, rfl⟩
        have hcf := fun w' => flow_is nn w'
        have hfs : (flowX 10 1 nn 7 9 0 0 0 1000 53).size = 36 := rfl
        have hfa : (flowX 10 1 nn 7 9 0 0 0 1000 53).all (·.oneCell') = true := flow_all _ _ _ _ _ _ _ _ _ _
        have hfp := flow_pfx nn w7
        have hpb := pktI_build nn ln
        have hfd : (flowX 10 1 nn 7 9 0 0 0 1000 53)[0]? = some (.bool false) := rfl
        have hkf := pktI_f nn ln
        rw [hFL] at hcf hfs hfa hfp hpb hfd
        have CFL := Lib.hid hcf
        have CPX := Lib.hid (fun w' => ref_prefix FL 10 1 nn w' hfd hfp)
        have HPB := Lib.hid hpb
        have HFS := Lib.hid (show (Tryz.prog.info? 58).map (·.size) = some FL.size by rw [hfs]; exact flow_info)
        have HFSZ := Lib.hid hfs
        have HFA1 := Lib.hid hfa
        have CAR : Hid (∀ w1, Pol w1 A F S → Calls Tryz.prog 20 #[.pointer (some ⟨A.pb, 0, none⟩), .agg (pktI nn ln), .int .i64 0, .agg dz] w1 fun e w' => ∃ (cl : Nat) (S5 : PSt), e = .returned (.agg #[.int .i64 (k : Nat), .int .i64 0, .int .i64 (cl : Nat), .int .i64 (-1), .bool false, .bool false]) ∧ FA (k + 1) S5 ∧ Pol w' A F S5 ∧ Tur A.tg [1, 3, 4, 5, 6, 7, 8, 9] w1 w') := Lib.hid fun w1 q => by
          have := fair_arrive HFA.out HFF.out HK2.out HMOD.out HLN.out (pktI_p nn ln) hkf A w1 q
          rw [HFA.out.arr] at this
          rw [← HDZ.out]
          exact this
        have hflz := flq_zero
        have hflzs : flZ.size = 36 := rfl
        generalize flZ = FZ at *
        have HFZ := Lib.hid hflz
        have HFZS := Lib.hid hflzs
        have hvt : (Tryz.prog.info? 35).map (·.size) = some 6 := by kernel_rfl
        have HVT := Lib.hid hvt
        clear hcf hfs hfa hfp hpb hfd hkf hFL hflz hflzs hvt
        go_wp2_with fail
        refine (CFL.out _).mono ?_
        rintro e u8 ⟨rfl, hB8⟩
        have HE80 := Lib.hid (HE8.out.below hB8)
        have HT80 := Lib.hid (HT.out.below hB8)
        clear hB8 HE8 HT CFL
        go_upto_region 15 with (first | ((with_reducible refine arm_alloc 12 58 FZ 36 HFZ.out ?_); intro u9 HB9 HX9 HS9; have hst := box_store (t := 58) (x := FL) HX9.out HFS.out HFA1.out (HFZS.out.trans HFSZ.out.symm)) | ((with_reducible refine arm_store 12 67 58 _ _ _ hst ?_ ?_ ?_); rfl; rfl))
        have hX9 := box_whole HX9.out (cs := FL) (HFSZ.out.trans HFZS.out.symm)
        have hB9 := below_setCells (b := u8.heap.size) (Nat.le_refl _) FL.toList 0 HB9.out
        have hft : A.tg u8.heap.size = 0 := HAOK.out _ HE80.out.lim
        have HE9 := Lib.hid (HE80.out.below hB9)
        have HT9 := Lib.hid (HT80.out.below hB9)
        clear hst hB9 HB9 HX9 HS9 HE80 HT80
        generalize u9.setCells u8.heap.size 0 FL.toList = v9 at *
        generalize u8.heap.size = fb at *
        have HLD : Hid (∀ w', Tur A.tg [1, 3, 4, 5, 6, 7, 8, 9] v9 w' → (Instr.loadAt 58 (.pointer (some ⟨fb, 0, none⟩))).run Tryz.prog w' = .ok (.agg FL) w') := Lib.hid fun w' q =>
          box_load (t := 58) (q.keep hX9 (by rw [hft]; decide)) _ Tryz.underlying58 rfl HFS.out
        clear hX9
        have hvt := HVT.out
        go_wp2_with fail
        refine wp_region_held_drew (S := Tur A.tg [1, 3, 4, 5, 6, 7, 8, 9] v9) (by kernel_rfl) (Tur.refl _ _ _).drew (fun hHeld => ?_)
        refine wpAnyH_take (i := 0) (oi := ⟨some 68, _, _, _, _, _⟩) (v := ?_) rfl (by kernel_rfl) (by kernel_rfl) (by kernel_rfl) (fun _ _ _ h => h) (Or.inl ⟨by rfl, ?_⟩) hHeld ?_
        rotate_left
        · intro w hSw
          go_simp
          try with_reducible rfl
        try simp only [Act.put, List.setIfInBounds_toArray, List.set_cons_zero, List.set_cons_succ]
        refine wpAnyH_take (i := 2) (oi := ⟨some 70, _, _, _, _, _⟩) (v := .agg FL) rfl (by kernel_rfl) (by kernel_rfl) (by kernel_rfl) (fun _ _ _ h => h) (Or.inl ⟨by rfl, fun w hSw => exec_load rfl (HLD.out w hSw)⟩) hHeld ?_
        try simp only [Act.put, List.setIfInBounds_toArray, List.set_cons_zero, List.set_cons_succ]
        refine wpAnyH_take (i := 3) (oi := ⟨some 71, _, _, _, _, _⟩) (v := .agg FL) rfl (by kernel_rfl) (by kernel_rfl) (by kernel_rfl) (fun _ _ _ h => h) (Or.inl ⟨by rfl, fun w hSw => exec_load rfl (HLD.out w hSw)⟩) hHeld ?_
        try simp only [Act.put, List.setIfInBounds_toArray, List.set_cons_zero, List.set_cons_succ]
        refine wpAnyH_take (i := 5) (oi := ⟨some 73, _, _, _, _, _⟩) (v := ?_) rfl (by kernel_rfl) (by kernel_rfl) (by kernel_rfl) (fun _ _ _ h => h) (Or.inl ⟨by rfl, ?_⟩) hHeld ?_
        rotate_left
        · intro w hSw
          go_simp
          try with_reducible rfl
        try simp only [Act.put, List.setIfInBounds_toArray, List.set_cons_zero, List.set_cons_succ]
        refine wpAnyH_take (i := 7) (oi := ⟨some 75, _, _, _, _, _⟩) (v := .agg dz) rfl (by kernel_rfl) (by kernel_rfl) (by kernel_rfl) (fun _ _ _ h => h) (Or.inl ⟨by rfl, fun w hSw => exec_build (vals := #[]) (by simp [Act.eval]) (HDB.out w)⟩) hHeld ?_
        try simp only [Act.put, List.setIfInBounds_toArray, List.set_cons_zero, List.set_cons_succ]
        refine wpAnyH_ready (rs := [1, 9]) (by kernel_rfl) (by simp) ?_
        refine AllReadyH.cons rfl (fun K hK => ?ordA) (AllReadyH.cons rfl (fun K hK => ?ordB) AllReadyH.nil)
        case' ordA =>
          go_simp
          go_wp2_with (go_at_call 19; go_must (refine (sch_police HE9.out.drew).mono ?_; rintro e w1 ⟨rfl, rfl⟩))
          refine hK.out _ _ (hHeld) (fun hHeld => ?_)
          clear hK K
          refine wpAnyH_ready (rs := [4, 9]) (by kernel_rfl) (by simp) ?_
          refine AllReadyH.cons rfl (fun K hK => ?ordA1) (AllReadyH.cons rfl (fun K hK => ?ordA2) AllReadyH.nil)
        case' ordA1 =>
          go_simp
          go_wp2_with (go_at_call 21; go_must (refine (CPX.out _).mono ?_; rintro e w4 ⟨rfl, hB4⟩))
          refine hK.out _ _ (hHeld.below hB4) (fun hHeld => ?_)
          clear hK K
          refine wpAnyH_take (i := 6) (oi := ⟨some 74, _, _, _, _, _⟩) (v := .agg (pktI nn ln)) rfl (by kernel_rfl) (by kernel_rfl) (by kernel_rfl) (fun _ _ _ h => h) (Or.inl ⟨by rfl, fun w hSw => exec_build (vals := #[(1, .agg FL), (2, .agg (pfx 10 1 nn)), (3, .int .i64 ln)]) (by simp [Act.eval]) (HPB.out w)⟩) hHeld ?_
          try simp only [Act.put, List.setIfInBounds_toArray, List.set_cons_zero, List.set_cons_succ]
          have hE4 := HE9.out.drew.below hB4
          refine wpAnyH_ready (rs := [8, 9]) (by kernel_rfl) (by simp) ?_
          refine AllReadyH.cons rfl (fun K hK => ?ordA3) (AllReadyH.cons rfl (fun K hK => ?ordA4) AllReadyH.nil)
        case' ordA3 =>
          go_simp
          go_wp2_with (go_at_call 20; go_must (refine (CAR.out _ hE4.pol).mono ?_; rintro e w8 ⟨cl, S5, rfl, hFA5, hP5, hT5⟩))
          refine hK.out _ _ (hHeld.trans hT5) (fun hHeld => ?_)
          clear hK K
          have hE5 := hE4.setPol hT5 (by decide) hP5
          have hs5 := hHeld.size
          refine wpAnyH_ready (rs := [9]) (by kernel_rfl) (by simp) ?_
          refine AllReadyH.cons rfl (fun K hK => ?_) AllReadyH.nil
          refine step_alloc 13 35 VZ1 6 HVZ.out ?_; intro W9 HB9 HX9 HS9
          refine hK.out _ _ (hHeld.below HB9.out) (fun hHeld => ?_)
          clear hK K
          obtain ⟨vb, hvb⟩ : ∃ z, w8.heap.size = z := ⟨_, rfl⟩
          have hv0 : A.tg vb = 0 := HAOK.out _ (hvb ▸ hE5.lim)
          have hEF := hE5.below HB9.out
          have hage : v9.heap.size ≤ vb := hvb ▸ hs5
          have hXV := HX9.out
          rw [hvb] at hXV
          rw [hvb]
          have hst := box_store (t := 35) (x := #[.int .i64 (k : Nat), .int .i64 0, .int .i64 (cl : Nat), .int .i64 (-1), .bool false, .bool false]) hXV hvt (by kernel_rfl) HVZS.out
          have HBX := Lib.hid (box_whole (cs := #[.int .i64 (k : Nat), .int .i64 0, .int .i64 (cl : Nat), .int .i64 (-1), .bool false, .bool false]) hXV HVZS.out.symm)
          refine wpAnyH_ready (rs := [10]) (by kernel_rfl) (by simp) ?_
          refine AllReadyH.cons rfl (fun K hK => ?_) AllReadyH.nil
          refine step_store 13 76 35 _ _ _ hst rfl rfl ?_
          refine hK.out _ _ (hHeld.fresh hage _ _) (fun hHeld => ?_)
          clear hK K
          refine wpAnyH_done (by kernel_rfl) ?_ _
        case' ordA4 =>
          refine step_alloc 13 35 VZ1 6 HVZ.out ?_; intro W9 HB9 HX9 HS9
          refine hK.out _ _ (hHeld.below HB9.out) (fun hHeld => ?_)
          clear hK K
          obtain ⟨vb, hvb⟩ : ∃ z, w4.heap.size = z := ⟨_, rfl⟩
          have hv0 : A.tg vb = 0 := HAOK.out _ (hvb ▸ hE4.lim)
          have hE5 := hE4.below HB9.out
          have hage : v9.heap.size ≤ vb := hvb ▸ (Nat.le_trans (Nat.le_refl _) hB4.size)
          have hXW := HX9.out
          rw [hvb] at hXW
          rw [hvb]
          refine wpAnyH_ready (rs := [8]) (by kernel_rfl) (by simp) ?_
          refine AllReadyH.cons rfl (fun K hK => ?_) AllReadyH.nil
          go_simp
          go_wp2_with (go_at_call 20; go_must (refine (CAR.out _ hE5.pol).mono ?_; rintro e w8 ⟨cl, S5, rfl, hFA5, hP5, hT5⟩))
          refine hK.out _ _ (hHeld.trans hT5) (fun hHeld => ?_)
          clear hK K
          have hEF := hE5.setPol hT5 (by decide) hP5
          have hXV := hT5.keep hXW (by rw [hv0]; decide)
          have hst := box_store (t := 35) (x := #[.int .i64 (k : Nat), .int .i64 0, .int .i64 (cl : Nat), .int .i64 (-1), .bool false, .bool false]) hXV hvt (by kernel_rfl) HVZS.out
          have HBX := Lib.hid (box_whole (cs := #[.int .i64 (k : Nat), .int .i64 0, .int .i64 (cl : Nat), .int .i64 (-1), .bool false, .bool false]) hXV HVZS.out.symm)
          refine wpAnyH_ready (rs := [10]) (by kernel_rfl) (by simp) ?_
          refine AllReadyH.cons rfl (fun K hK => ?_) AllReadyH.nil
          refine step_store 13 76 35 _ _ _ hst rfl rfl ?_
          refine hK.out _ _ (hHeld.fresh hage _ _) (fun hHeld => ?_)
          clear hK K
          refine wpAnyH_done (by kernel_rfl) ?_ _
        case' ordA2 =>
          refine step_alloc 13 35 VZ1 6 HVZ.out ?_; intro W9 HB9 HX9 HS9
          refine hK.out _ _ (hHeld.below HB9.out) (fun hHeld => ?_)
          clear hK K
          obtain ⟨vb, hvb⟩ : ∃ z, v9.heap.size = z := ⟨_, rfl⟩
          rw [show v9.drew.heap.size = v9.heap.size from rfl] at HX9 HS9
          have hv0 : A.tg vb = 0 := HAOK.out _ (hvb ▸ HE9.out.lim)
          have hage : v9.heap.size ≤ vb := Nat.le_of_eq hvb
          have hE3 := HE9.out.drew.below HB9.out
          have hXW := HX9.out
          rw [hvb] at hXW
          first | rw [hvb] | rw [show v9.drew.heap.size = vb from hvb]
          refine wpAnyH_ready (rs := [4]) (by kernel_rfl) (by simp) ?_
          refine AllReadyH.cons rfl (fun K hK => ?_) AllReadyH.nil
          go_simp
          go_wp2_with (go_at_call 21; go_must (refine (CPX.out _).mono ?_; rintro e w4 ⟨rfl, hB4⟩))
          refine hK.out _ _ (hHeld.below hB4) (fun hHeld => ?_)
          clear hK K
          refine wpAnyH_take (i := 6) (oi := ⟨some 74, _, _, _, _, _⟩) (v := .agg (pktI nn ln)) rfl (by kernel_rfl) (by kernel_rfl) (by kernel_rfl) (fun _ _ _ h => h) (Or.inl ⟨by rfl, fun w hSw => exec_build (vals := #[(1, .agg FL), (2, .agg (pfx 10 1 nn)), (3, .int .i64 ln)]) (by simp [Act.eval]) (HPB.out w)⟩) hHeld ?_
          try simp only [Act.put, List.setIfInBounds_toArray, List.set_cons_zero, List.set_cons_succ]
          have hE4 := hE3.below hB4
          refine wpAnyH_ready (rs := [8]) (by kernel_rfl) (by simp) ?_
          refine AllReadyH.cons rfl (fun K hK => ?_) AllReadyH.nil
          go_simp
          go_wp2_with (go_at_call 20; go_must (refine (CAR.out _ hE4.pol).mono ?_; rintro e w8 ⟨cl, S5, rfl, hFA5, hP5, hT5⟩))
          refine hK.out _ _ (hHeld.trans hT5) (fun hHeld => ?_)
          clear hK K
          have hEF := hE4.setPol hT5 (by decide) hP5
          have hXV := hT5.keep (keep_block hB4 hXW) (by rw [hv0]; decide)
          have hst := box_store (t := 35) (x := #[.int .i64 (k : Nat), .int .i64 0, .int .i64 (cl : Nat), .int .i64 (-1), .bool false, .bool false]) hXV hvt (by kernel_rfl) HVZS.out
          have HBX := Lib.hid (box_whole (cs := #[.int .i64 (k : Nat), .int .i64 0, .int .i64 (cl : Nat), .int .i64 (-1), .bool false, .bool false]) hXV HVZS.out.symm)
          refine wpAnyH_ready (rs := [10]) (by kernel_rfl) (by simp) ?_
          refine AllReadyH.cons rfl (fun K hK => ?_) AllReadyH.nil
          refine step_store 13 76 35 _ _ _ hst rfl rfl ?_
          refine hK.out _ _ (hHeld.fresh hage _ _) (fun hHeld => ?_)
          clear hK K
          refine wpAnyH_done (by kernel_rfl) ?_ _
        case' ordB =>
          refine step_alloc 13 35 VZ1 6 HVZ.out ?_; intro W9 HB9 HX9 HS9
          refine hK.out _ _ (hHeld.below HB9.out) (fun hHeld => ?_)
          clear hK K
          obtain ⟨vb, hvb⟩ : ∃ z, v9.heap.size = z := ⟨_, rfl⟩
          rw [show v9.drew.heap.size = v9.heap.size from rfl] at HX9 HS9
          have hv0 : A.tg vb = 0 := HAOK.out _ (hvb ▸ HE9.out.lim)
          have hage : v9.heap.size ≤ vb := Nat.le_of_eq hvb
          have hE3 := HE9.out.drew.below HB9.out
          have hXW := HX9.out
          rw [hvb] at hXW
          first | rw [hvb] | rw [show v9.drew.heap.size = vb from hvb]
          refine wpAnyH_ready (rs := [1]) (by kernel_rfl) (by simp) ?_
          refine AllReadyH.cons rfl (fun K hK => ?_) AllReadyH.nil
          go_simp
          go_wp2_with (go_at_call 19; go_must (refine (sch_police hE3).mono ?_; rintro e w1 ⟨rfl, hw1⟩))
          refine hK.out _ _ (hw1 ▸ hHeld) (fun hHeld => ?_)
          clear hK K
          replace hw1 := hw1.symm
          subst hw1
          refine wpAnyH_ready (rs := [4]) (by kernel_rfl) (by simp) ?_
          refine AllReadyH.cons rfl (fun K hK => ?_) AllReadyH.nil
          go_simp
          go_wp2_with (go_at_call 21; go_must (refine (CPX.out _).mono ?_; rintro e w4 ⟨rfl, hB4⟩))
          refine hK.out _ _ (hHeld.below hB4) (fun hHeld => ?_)
          clear hK K
          refine wpAnyH_take (i := 6) (oi := ⟨some 74, _, _, _, _, _⟩) (v := .agg (pktI nn ln)) rfl (by kernel_rfl) (by kernel_rfl) (by kernel_rfl) (fun _ _ _ h => h) (Or.inl ⟨by rfl, fun w hSw => exec_build (vals := #[(1, .agg FL), (2, .agg (pfx 10 1 nn)), (3, .int .i64 ln)]) (by simp [Act.eval]) (HPB.out w)⟩) hHeld ?_
          try simp only [Act.put, List.setIfInBounds_toArray, List.set_cons_zero, List.set_cons_succ]
          have hE4 := hE3.below hB4
          refine wpAnyH_ready (rs := [8]) (by kernel_rfl) (by simp) ?_
          refine AllReadyH.cons rfl (fun K hK => ?_) AllReadyH.nil
          go_simp
          go_wp2_with (go_at_call 20; go_must (refine (CAR.out _ hE4.pol).mono ?_; rintro e w8 ⟨cl, S5, rfl, hFA5, hP5, hT5⟩))
          refine hK.out _ _ (hHeld.trans hT5) (fun hHeld => ?_)
          clear hK K
          have hEF := hE4.setPol hT5 (by decide) hP5
          have hXV := hT5.keep (keep_block hB4 hXW) (by rw [hv0]; decide)
          have hst := box_store (t := 35) (x := #[.int .i64 (k : Nat), .int .i64 0, .int .i64 (cl : Nat), .int .i64 (-1), .bool false, .bool false]) hXV hvt (by kernel_rfl) HVZS.out
          have HBX := Lib.hid (box_whole (cs := #[.int .i64 (k : Nat), .int .i64 0, .int .i64 (cl : Nat), .int .i64 (-1), .bool false, .bool false]) hXV HVZS.out.symm)
          refine wpAnyH_ready (rs := [10]) (by kernel_rfl) (by simp) ?_
          refine AllReadyH.cons rfl (fun K hK => ?_) AllReadyH.nil
          refine step_store 13 76 35 _ _ _ hst rfl rfl ?_
          refine hK.out _ _ (hHeld.fresh hage _ _) (fun hHeld => ?_)
          clear hK K
          refine wpAnyH_done (by kernel_rfl) ?_ _
        all_goals
          try simp only [Act.put, List.setIfInBounds_toArray, List.set_cons_zero, List.set_cons_succ]
          have HE10 := Lib.hid (hEF.fresh hv0 (#[.int .i64 (k : Nat), .int .i64 0, .int .i64 (cl : Nat), .int .i64 (-1), .bool false, .bool false] : Array Value).toList 0)
          have HT10 := Lib.hid (HT9.out.trans hHeld)
          have HFA5 := Lib.hid hFA5
          have V10 := HBX
          clear hHeld hEF hXV hst HBX hT5 hP5 hFA5 hage hvb HX9 HS9 HB9 HE9 HT9 HLD CPX CAR HPB hvt
          generalize World.setCells _ vb 0 _ = W10 at *
          have v1 := cells_of_row V10.out 1 _ rfl
          go_wp2
          go_roundw
          case rel => exact ⟨k + 1, S5, by have := HK2.out; omega, by go_num, HE10.out, HFA5.out, HT10.out⟩
          case measure => have := HK2.out; simp [intOf]; omega
end Go.Proofs.YtpanmfdbdgecaaaGreat.C

namespace Go.Proofs.YtpanmfdbdgecaaaGreat.C
open Go.RowKit
set_option linter.unusedVariables false
set_option maxRecDepth 100000 in
/-- Not for these numbers: the program is awake. -/
theorem fair_skip (kv : Array Value) (room : Int) (a2 : Option Addr) (n2 c2 : Nat) (w : World) (hm2 : n2 ≤ 9223372036854775807) (hno : 60 < n2) :
    Calls Tryz.prog 6 #[.agg kv, .int .u16 room, .slice a2 n2 c2] w fun e w' => e = .returned (.bool true) ∧ Below w.heap.size w w' := by
  have CA := Lib.hid awake_is
  have d0 : decide (60 < n2) = true := decide_eq_true hno
  have e0 : (60 : Int) < (n2 : Int) := by omega
  refine calls_hide fun Q HQ => ?_
  go_enter Tryz.func6, Tryz.ntmps6
  go_upto_region 1 with ((with_reducible refine arm_box 3 0 22 kv rfl ?_); intro w1 HB1 HX1 HS1)
  have B2 := Lib.hid HB1.out
  clear HB1 HX1 HS1
  go_wp2_with fail
  refine (CA.out _).mono ?_
  rintro e w3 ⟨rfl, hB3⟩
  have B3 := Lib.hid (B2.out.trans (hB3.mono B2.out.size))
  clear hB3 B2
  go_wp2_with fail
  refine (CA.out _).mono ?_
  rintro e w4 ⟨rfl, hB4⟩
  have B4 := Lib.hid (B3.out.trans (hB4.mono B3.out.size))
  clear hB4 B3
  go_wp2
  exact HQ.out _ _ ⟨rfl, B4.out⟩
theorem walk_fair (kv : Array Value) (room : Int) (a2 : Option Addr) (l2 c2 : Nat) (z2 : List Int) (w : World) (h0 : ∃ K, Key16 kv K) (h1 : (Lit.int .u16 room).wf = true) (h2 : IsRow .u16 w a2 l2 c2 z2) :
    Calls Tryz.prog 6 #[.agg kv, .int .u16 room, .slice a2 l2 c2] w fun e w' => e = .returned (.bool true) ∧ Below w.heap.size w w' := by
  obtain ⟨K, hk⟩ := h0
  obtain ⟨K2, rfl, hN2, hm2⟩ := nums_of h2
  rcases Nat.lt_or_ge 60 K2.length with q1 | q1
  · exact fair_skip kv room a2 _ c2 w hm2 q1
  · exact fair_main kv K room a2 K2 c2 w hk h1 q1 hN2
end Go.Proofs.YtpanmfdbdgecaaaGreat.C
