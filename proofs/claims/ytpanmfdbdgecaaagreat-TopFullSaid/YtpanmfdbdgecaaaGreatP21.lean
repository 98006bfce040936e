/- The law TopFull, walked. · The law TopFull: for whatever input. -/
import Derived.Test.YtpanmfdbdgecaaaGreatP20
namespace Go.Proofs.YtpanmfdbdgecaaaGreat.C
open Go.RowKit
set_option linter.unusedVariables false
def VZ0 : Array Value := #[.int .i64 0, .int .i64 0, .int .i64 0, .int .i64 0, .bool false, .bool false]
theorem vz0_zero : (Tryz.prog.info? 35).map (fun i => (i.zero, i.size)) = some (some (.agg VZ0), 6) := by kernel_rfl
theorem mem_take (ins : List Nat) (i b x : Nat) (h : ins[i]? = some x) : decide (b ∈ ins.take (i + 1)) = (decide (b ∈ ins.take i) || decide (x = b)) := by
  have hi : i < ins.length := lt_of_some h
  have e : ins.take (i + 1) = ins.take i ++ [x] := by
    rw [List.take_succ_eq_append_getElem hi]
    rw [List.getElem?_eq_getElem hi] at h
    injection h with h
    rw [h]
  rw [e]
  by_cases h1 : b ∈ ins.take i
  · simp [h1]
  · by_cases h2 : x = b
    · subst h2
      simp
    · have h3 : ¬ b = x := fun e => h2 e.symm
      simp [h1, h2, h3]
def stN (N : Nat → Int) : Array Value := #[.int .i64 (N 0), .int .i64 (N 1), .int .i64 (N 2), .int .i64 (N 3), .int .i64 (N 4), .int .i64 (N 5), .int .i64 (N 6), .int .i64 (N 7), .int .i64 (N 8), .int .i64 (N 9), .int .i64 (N 10), .int .i64 (N 11), .int .i64 (N 12), .int .i64 (N 13), .int .i64 (N 14)]
theorem stX_field (N : Nat → Int) (w : World) : (Instr.field 49 (.agg (stX N)) 0).run Tryz.prog w = .ok (.agg (stN N)) w := by kernel_rfl
theorem stN_index (N : Nat → Int) (w : World) : (Instr.index 46 (.agg (stN N)) (.int .i64 8)).run Tryz.prog w = .ok (.int .i64 (N 8)) w := by kernel_rfl
/-- What is told in each of the cases. -/
theorem told (room : Nat) (ins : List Nat) (b : Nat) : ∃ (cl : Int) (bo bf : Bool), (rCl room ins b = cl ∧ rBo room ins b = bo ∧ rBf room ins b = bf) ∧ ((decide (b ∈ ins) = true ∧ cl = 2 ∧ bo = false ∧ bf = false ∧ nxtI room ins b = ins) ∨ (decide (b ∈ ins) = false ∧ ins.length < room ∧ cl = 2 ∧ bo = true ∧ bf = false ∧ nxtI room ins b = ins ++ [b]) ∨ (decide (b ∈ ins) = false ∧ ¬ ins.length < room ∧ cl = 0 ∧ bo = false ∧ bf = true ∧ nxtI room ins b = ins)) := by
  refine ⟨_, _, _, ⟨rfl, rfl, rfl⟩, ?_⟩
  by_cases hin : b ∈ ins
  · exact .inl ⟨decide_eq_true hin, if_pos (.inl hin), decide_eq_false fun h => h.1 hin, decide_eq_false fun h => h.1 hin, if_neg fun h => h.1 hin⟩
  · by_cases hlt : ins.length < room
    · exact .inr (.inl ⟨decide_eq_false hin, hlt, if_pos (.inr hlt), decide_eq_true ⟨hin, hlt⟩, decide_eq_false fun h => h.2 hlt, if_pos ⟨hin, hlt⟩⟩)
    · exact .inr (.inr ⟨decide_eq_false hin, hlt, if_neg fun h => h.elim hin hlt, decide_eq_false fun h => hlt h.2, decide_eq_true ⟨hin, hlt⟩, if_neg fun h => hlt h.2⟩)
set_option maxRecDepth 100000 in
set_option maxHeartbeats 8000000 in
theorem full_main (kv : Array Value) (K : Nat → Nat) (room : Int) (a2 : Option Addr) (L2 : List Int) (c2 : Nat) (w : World) (hk : Key16 kv K) (hr : (Lit.int .u8 room).wf = true) (hn2 : L2.length ≤ 30) (hN2 : Nums .u8 w a2 L2) :
    Calls Tryz.prog 4 #[.agg kv, .int .u8 room, .slice a2 L2.length c2] w fun e w' => e = .returned (.bool true) ∧ Below w.heap.size w w' := by
  obtain ⟨r0, r1⟩ := bounds_u8 hr
  clear hr
  obtain ⟨i0, hi, hz0, hz1, hz2⟩ := info_parts u8_info
  have Hi := Lib.hid hi
  have Hz0 := Lib.hid hz0
  have Hz1 := Lib.hid hz1
  have Hz2 := Lib.hid hz2
  have CA := Lib.hid awake_is
  have CL := Lib.hid little_is
  have HN2 := Lib.hid hN2
  have HKY := Lib.hid hk
  obtain ⟨n2, hl2⟩ : ∃ n, L2.length = n := ⟨_, rfl⟩
  have HL2 := Lib.hid hl2
  rw [hl2] at hn2 ⊢
  have d0 : decide (30 < n2) = false := decide_eq_false (by omega)
  have e0 : (n2 : Int) ≤ 30 := by omega
  have HNN := Lib.hid hn2
  obtain ⟨dz, hdz⟩ : ∃ z, DZ = z := ⟨_, rfl⟩
  have hdb := build_dz
  rw [hdz] at hdb
  have HDZ := Lib.hid hdz
  have hst := cz_zero
  have hcfg := cfg_all litC
  have HV := Lib.hid (cfgV_ok litC)
  have HC := Lib.hid full_cfg
  have hc20 : (Tryz.prog.info? 26).map (·.size) = some (cfgV litC).size := by rw [(cfgV_ok litC).size]; exact cfg_size
  have hcz : CZ.size = (cfgV litC).size := (cfgV_ok _).size.trans (cfgV_ok litC).size.symm
  generalize cfgV litC = cv at *
  generalize CZ = Z at *
  have HST := Lib.hid hst
  have HCF := Lib.hid hcfg
  have HC20 := Lib.hid hc20
  have HCZ := Lib.hid hcz
  have HDB := Lib.hid hdb
  obtain ⟨VZ1, hVZ⟩ : ∃ z, VZ0 = z := ⟨_, rfl⟩
  have hvz := vz0_zero
  have hvzs : VZ1.size = 6 := by rw [← hVZ]; rfl
  rw [hVZ] at hvz
  have HVZ := Lib.hid hvz
  have HVZS := Lib.hid hvzs
  clear hst hcfg hc20 hcz hdb hdz hVZ hvz hvzs hi hz0 hz1 hz2 hN2 hl2 hn2
  obtain ⟨tt, htt⟩ : ∃ tt, room.tmod 8 = tt := ⟨_, rfl⟩
  have htt0 : 0 ≤ tt ∧ tt < 8 := by rw [Int.tmod_eq_emod_of_nonneg r0] at htt; omega
  have hw0 : IntKind.i64.wrap room = room := IntWalk.i64_in _ (by omega)
  have hw1 : IntKind.i64.wrap tt = tt := IntWalk.i64_in _ (by omega)
  obtain ⟨R, hR⟩ : ∃ R : Nat, 1 + tt = (R : Int) := ⟨(1 + tt).toNat, by omega⟩
  have hR8 : 1 ≤ R ∧ R ≤ 8 := by omega
  have hw2 : IntKind.i64.wrap (R : Int) = (R : Int) := IntWalk.i64_in _ (by omega)
  have HR8 := Lib.hid hR8
  have HKS := Lib.hid hk.size
  clear hR8 htt0 r0 r1 hk
  go_enter Tryz.func4, Tryz.ntmps4
  go_upto_region 1 with ((with_reducible refine arm_box 3 0 22 kv rfl ?_); intro w1 HB1 HX1 HS1)
  obtain ⟨kb, hkb⟩ : ∃ k, k = w.heap.size := ⟨_, rfl⟩
  rw [← hkb] at HX1 ⊢
  have HKB := Lib.hid hkb
  clear hkb
  go_wp2_with fail
  refine (CA.out _).mono ?_
  rintro e w2 ⟨rfl, hB2⟩
  have HX2 := Lib.hid (show w2.heap[kb]? = some (.cells kv 22 (0, 0)) from (hB2.block kb (by have := HKB.out; have := HS1.out; omega)).trans HX1.out)
  have HB2 := Lib.hid (HB1.out.trans (hB2.mono HB1.out.size))
  clear hB2 HX1 CA
  go_wp2_with fail
  refine (CL.out _).mono ?_
  rintro e w3 ⟨rfl, hB3⟩
  have HX3 := Lib.hid (keep_block hB3 HX2.out)
  have HB3 := Lib.hid (HB2.out.trans (hB3.mono HB2.out.size))
  clear hB3 HX2 HB2 CL HB1 HS1
  obtain ⟨cb, hcb⟩ : ∃ c, c = w3.heap.size := ⟨_, rfl⟩
  have HK3 := Lib.hid (show kb < w3.heap.size from (Array.getElem?_eq_some_iff.1 HX3.out).1)
  go_upto_region 4 with (first | ((with_reducible refine arm_alloc 7 26 Z 20 HST.out ?_); intro w4 HB4 HX4 HS4; have hst := box_store (t := 26) (x := cv) HX4.out HC20.out HCF.out HCZ.out) | ((with_reducible refine arm_store 7 24 26 _ _ _ hst ?_ ?_ ?_); rfl; rfl))
  clear hst
  have hX5 := box_whole HX4.out (cs := cv) HCZ.out.symm
  have hB5 := below_setCells (b := w3.heap.size) (Nat.le_refl _) cv.toList 0 HB4.out
  rw [← hcb] at hX5 hB5 ⊢
  have HXK := Lib.hid (show (w4.setCells cb 0 cv.toList).heap[kb]? = some (.cells kv 22 (0, 0)) from (hB5.block kb (by have := HK3.out; omega)).trans HX3.out)
  have HB5 := Lib.hid (HB3.out.trans (hB5.mono (hcb ▸ HB3.out.size)))
  have HCB := Lib.hid (show w.heap.size ≤ cb from hcb ▸ HB3.out.size)
  have HNE := Lib.hid (show kb ≠ cb from by have := HK3.out; omega)
  clear hB5 HX4 HB4 HS4 HB3 HX3 HK3 hcb HCZ HST
  generalize w4.setCells cb 0 cv.toList = w5 at *
  have c7 := cells_of_row hX5 7 _ (HV.out.at_ 7 (by decide))
  have c17 := cells_of_row hX5 17 _ (HV.out.at_ 17 (by decide))
  have c16 := cells_of_row hX5 16 _ (HV.out.at_ 16 (by decide))
  have c19 := cells_of_row hX5 19 _ (HV.out.at_ 19 (by decide))
  have c1 := cells_of_row hX5 1 _ (HV.out.at_ 1 (by decide))
  have c9 := cells_of_row hX5 9 _ (HV.out.at_ 9 (by decide))
  have c6 := cells_of_row hX5 6 _ (HV.out.at_ 6 (by decide))
  have c12 := cells_of_row hX5 12 _ (HV.out.at_ 12 (by decide))
  have f7 := frozen_of_row _ _ 7 _ _ hX5
  have f17 := frozen_of_row _ _ 17 _ _ hX5
  have f16 := frozen_of_row _ _ 16 _ _ hX5
  have f19 := frozen_of_row _ _ 19 _ _ hX5
  have f1 := frozen_of_row _ _ 1 _ _ hX5
  have f9 := frozen_of_row _ _ 9 _ _ hX5
  have f6 := frozen_of_row _ _ 6 _ _ hX5
  have f12 := frozen_of_row _ _ 12 _ _ hX5
  have hX6 := heap_setCell_same _ _ 12 _ _ (.int .i64 1048576) (heap_setCell_same _ _ 6 _ _ (.int .i64 64) (heap_setCell_same _ _ 9 _ _ (.int .i64 1048576) (heap_setCell_same _ _ 1 _ _ (.int .i64 60) (heap_setCell_same _ _ 19 _ _ (.int .i64 1048576) (heap_setCell_same _ _ 17 _ _ (.int .i64 1099511627776) (heap_setCell_same _ _ 16 _ _ (.int .i64 1) (heap_setCell_same _ _ 7 _ _ (.int .i64 (R : Nat)) hX5)))))))
  have hB6 := (((((((HB5.out.setCell (p := ⟨cb, 7, none⟩) HCB.out (.int .i64 (R : Nat))).setCell (p := ⟨cb, 16, none⟩) HCB.out (.int .i64 1)).setCell (p := ⟨cb, 17, none⟩) HCB.out (.int .i64 1099511627776)).setCell (p := ⟨cb, 19, none⟩) HCB.out (.int .i64 1048576)).setCell (p := ⟨cb, 1, none⟩) HCB.out (.int .i64 60)).setCell (p := ⟨cb, 9, none⟩) HCB.out (.int .i64 1048576)).setCell (p := ⟨cb, 6, none⟩) HCB.out (.int .i64 64)).setCell (p := ⟨cb, 12, none⟩) HCB.out (.int .i64 1048576)
  have hkk : ∀ (x : World) (i : Nat) (v : Value), x.heap[kb]? = some (.cells kv 22 (0, 0)) → (x.setCell ⟨cb, i, none⟩ v).heap[kb]? = some (.cells kv 22 (0, 0)) := fun x i v h => (heap_setCell_other _ _ _ _ HNE.out).trans h
  have hKA := hkk _ 12 (.int .i64 1048576) (hkk _ 6 (.int .i64 64) (hkk _ 9 (.int .i64 1048576) (hkk _ 1 (.int .i64 60) (hkk _ 19 (.int .i64 1048576) (hkk _ 17 (.int .i64 1099511627776) (hkk _ 16 (.int .i64 1) (hkk _ 7 (.int .i64 (R : Nat)) HXK.out)))))))
  have HX6 := Lib.hid hX6
  have HB6 := Lib.hid hB6
  have HK6 := Lib.hid hKA
  have HV6 := Lib.hid (HC.out R)
  clear hX6 hB6 hkk hKA hX5 HC
  go_upto_region 5 with (fail)
  generalize ((((((((w5.setCell ⟨cb, 7, none⟩ (.int .i64 (R : Nat))).setCell ⟨cb, 16, none⟩ (.int .i64 1)).setCell ⟨cb, 17, none⟩ (.int .i64 1099511627776)).setCell ⟨cb, 19, none⟩ (.int .i64 1048576)).setCell ⟨cb, 1, none⟩ (.int .i64 60)).setCell ⟨cb, 9, none⟩ (.int .i64 1048576)).setCell ⟨cb, 6, none⟩ (.int .i64 64)).setCell ⟨cb, 12, none⟩ (.int .i64 1048576)) = w6 at *
  generalize ((((((((cv.setIfInBounds 7 (Value.int .i64 (R : Nat))).setIfInBounds 16 (.int .i64 1)).setIfInBounds 17 (.int .i64 1099511627776)).setIfInBounds 19 (.int .i64 1048576)).setIfInBounds 1 (.int .i64 60)).setIfInBounds 9 (.int .i64 1048576)).setIfInBounds 6 (.int .i64 64)).setIfInBounds 12 (.int .i64 1048576)) = cv at *
  clear c7 c17 c16 c19 c1 c9 c6 c12 f7 f17 f16 f19 f1 f9 f6 f12 HXK HB5 HV HCF HC20
  have hl1 := box_load (t := 26) HX6.out _ Tryz.underlying26 rfl (by rw [HV6.out.size]; exact cfg_size)
  have hl2 := keys_load HKS.out HK6.out
  have HLT := Lib.hid (show cb < w6.heap.size from (Array.getElem?_eq_some_iff.1 HX6.out).1)
  have CN := Lib.hid (full_begin cv kv R w6 HV6.out HR8.out HKS.out)
  go_wp2_with (first | ((with_reducible refine arm_load 38 7 26 (.pointer (some ⟨cb, 0, none⟩)) (.agg cv) hl1 ?_ ?_); rfl) | ((with_reducible refine arm_load 39 3 22 (.pointer (some ⟨kb, 0, none⟩)) (.agg kv) hl2 ?_ ?_); rfl))
  refine CN.out.mono ?_
  rintro e w7 ⟨eb, G, rfl, hE, hB7⟩
  obtain ⟨H, hH⟩ : ∃ H, H = w6.heap.size := ⟨_, rfl⟩
  rw [← hH] at hE
  have HX7 := Lib.hid (keep_block hB7 HX6.out)
  have HB7 := Lib.hid (HB6.out.trans (hB7.mono HB6.out.size))
  have HLO := Lib.hid (show w.heap.size ≤ H from hH ▸ HB6.out.size)
  have HHI := Lib.hid (show H ≤ w7.heap.size from hH ▸ hB7.size)
  have HCH := Lib.hid (show cb < H from hH ▸ HLT.out)
  have HE := Lib.hid hE
  have HFF := Lib.hid (fullF (G := G) HR8.out HV6.out HKY.out)
  have C7 : Hid (∀ w' : World, Kp (fun j => j < H) w7 w' → w'.cell? ⟨cb, 7, none⟩ = some (.int .i64 (R : Nat)) ∧ ∀ b, b < w.heap.size → w'.heap[b]? = w.heap[b]?) := Lib.hid fun w' q => ⟨cells_of_row (q.keep HX7.out HCH.out) 7 _ (HV6.out.at_ 7 (by decide)), fun b hb => (q.block b (by have := HLO.out; have := HHI.out; omega) (by have := HLO.out; omega)).trans (HB7.out.block b hb)⟩
  have TKP : Hid (∀ w1 : World, Kp (fun j => j < H) w7 w1 → Below w.heap.size w w1) := Lib.hid fun w1 q => HB7.out.trans (q.to_below (fun k hk => Nat.lt_of_lt_of_le hk HLO.out) HB7.out.size)
  clear hE hB7 hl1 hl2 HX6 HB6 HK6 hH HLT htt hw0 hw1 hR CN HX7 HV6 HCB HNE HKB HB7
  generalize hF : (⟨cv, fullC R, kv, G⟩ : PCf) = F at *
  clear hF
  go_wp2_with fail
  go_loopw [10, 45] (fun s t wr => ∃ (k : Nat) (ins : List Nat) (A : Option Addr) (cap : Nat), k ≤ n2 ∧ t = .int .i64 (k : Nat) ∧ s = .slice A ins.length cap ∧ wr.ownsRow H 5 1 (.slice A ins.length cap) ins.length (bv ins) ∧ EngF (fun j => j < H ∨ (Value.slice A ins.length cap).ownBlock = some j) eb F R k ins wr ∧ Kp (fun j => j < H) w7 wr) (fun _ t _ => (n2 - intOf t).toNat)
  case atStart => exact ⟨0, [], none, 0, by omega, rfl, rfl, World.ownsRow_nil _ _ _ _, HE.out.sub fun j hj => hj.elim id (fun h => by cases h), Kp.refl _ _⟩
  case round =>
    obtain ⟨k, ins, A, cap, hk, rfl, rfl, ho, hEr, hKr⟩ := hrel
    obtain ⟨m, hm⟩ : ∃ m, ins.length = m := ⟨_, rfl⟩
    rw [hm] at ho hEr ⊢
    have HM := Lib.hid hm
    have HO := Lib.hid ho
    have HER := Lib.hid hEr
    have HKR := Lib.hid hKr
    have HM8 := Lib.hid (show m ≤ 8 from by
      obtain ⟨_, S, _, _, _, _, _, _, h⟩ := hEr
      have h1 := h.tab.sz
      have h2 := HR8.out
      omega)
    clear hm ho hEr hKr HE
    by_cases hkn : k = n2
    · subst hkn
      have C1 := Lib.hid (full_all HER.out)
      rw [HM.out] at C1
      go_wp2_with fail
      refine C1.out.mono ?_
      rintro e w8 ⟨⟨B, c8, rfl⟩, hE8, hK8⟩
      have HK8 := Lib.hid (HKR.out.trans (hK8.sub fun j hj => .inl hj))
      have C2 := Lib.hid (full_stats hE8)
      rw [HM.out] at C2
      clear hE8 hK8 C1
      go_wp2_with fail
      refine C2.out.mono ?_
      rintro e w9 ⟨N, rfl, hN8, hB9⟩
      have HK9 := Lib.hid (HK8.out.trans (Kp.of_below hB9))
      have hF1 := stX_field N w9
      have hF2 := stN_index N w9
      rw [hN8] at hF2
      generalize stX N = X at *
      generalize stN N = X1 at *
      clear hB9 C2 hN8
      go_wp2
      go_ret
      exact ⟨rfl, TKP.out _ HK9.out⟩
    · have hlt : (k : Int) < (n2 : Int) := by omega
      have hnn := HNN.out
      have hkw : IntKind.i64.wrap ((k : Int) + 1) = ((k + 1 : Nat) : Int) := by rw [IntWalk.i64_in _ (by omega)]; omega
      have HKK := Lib.hid (show k < 30 ∧ k < n2 from ⟨by omega, by omega⟩)
      obtain ⟨lk, hlk⟩ : ∃ v, L2[k]? = some v := ⟨_, List.getElem?_eq_getElem (by have := HL2.out; omega)⟩
      obtain ⟨x2, ha2, hc2, hf2⟩ := HN2.out.kept (C7.out _ HKR.out).2 hlk
      obtain ⟨l0, l1⟩ := bounds_u8 hf2
      obtain ⟨b, rfl⟩ : ∃ b : Nat, lk = (b : Int) := ⟨lk.toNat, by omega⟩
      have HBB := Lib.hid (show b < 256 by omega)
      have HC2 : Hid (∀ w', Kp (fun j => j < H) w7 w' → w'.cell? (x2.add k) = some (.int .u8 (b : Nat))) := Lib.hid fun w' q => by
        obtain ⟨x, hx, hc, _⟩ := HN2.out.kept (C7.out _ q).2 hlk
        rw [ha2] at hx
        injection hx with hx
        rw [hx]
        exact hc
      subst ha2
      clear hf2 hlk l0 l1 hc2 hnn hkn
      go_wp2_with fail
      go_loopw [12, 50] (fun s t wr2 => ∃ i : Nat, i ≤ m ∧ t = .int .i64 (i : Nat) ∧ s = .bool (decide (b ∈ ins.take i)) ∧ wr2.ownsRow H 5 1 (.slice A m cap) m (bv ins) ∧ EngF (fun j => j < H ∨ (Value.slice A m cap).ownBlock = some j) eb F R k ins wr2 ∧ Kp (fun j => j < H) w7 wr2) (fun _ t _ => (m - intOf t).toNat)
      case atStart => exact ⟨0, by omega, rfl, by simp, HO.out, HER.out, HKR.out⟩
      case round =>
        clear HO HER HKR
        obtain ⟨i, him, rfl, rfl, ho, hEr, hKr⟩ := hrel
        have HO := Lib.hid ho
        have HER := Lib.hid hEr
        have HKR := Lib.hid hKr
        clear ho hEr hKr
        have hm8 := HM8.out
        by_cases hi : i < m
        · obtain ⟨x, hx⟩ : ∃ x, ins[i]? = some x := ⟨_, List.getElem?_eq_getElem (by have := HM.out; omega)⟩
          obtain ⟨g, hg⟩ : ∃ g, A = some ⟨g, 0, none⟩ := by
            rcases HO.out.2 with ⟨_, h1⟩ | ⟨g, cap', cur, h0, _⟩
            · omega
            · injection h0 with h0
              exact ⟨g, h0⟩
          subst hg
          have hci := World.ownsRow.cells HO.out (g := g) rfl i (.int .u8 (x : Nat)) (by show (ins.map _)[i]? = _; rw [List.getElem?_map, hx]; rfl)
          have hci2 : wr.cell? ⟨g, i, none⟩ = some (.int .u8 (x : Nat)) := by
            rw [OW.addr_off, Nat.zero_add] at hci
            exact hci
          clear hci
          have hcl := HC2.out _ HKR.out
          have hii : (i : Int) < (m : Int) := by omega
          have hiw : IntKind.i64.wrap ((i : Int) + 1) = ((i + 1 : Nat) : Int) := by rw [IntWalk.i64_in _ (by omega)]; omega
          have hnext := mem_take ins i b x hx
          have HLE := Lib.hid (show i + 1 ≤ m from hi)
          obtain ⟨th, hth⟩ : ∃ th, decide (b ∈ ins.take i) = th := ⟨_, rfl⟩
          rw [hth] at hnext ⊢
          have HNX := Lib.hid hnext
          have HBD := Lib.hid (fun n => below_drewN (Below.refl wr.heap.size wr) n)
          clear hx hnext hth hi him hm8
          cases th with
          | true =>
            go_wp2_with fail
            go_quiet (fail)
            go_wp2
            go_roundw
            case rel => exact ⟨i + 1, HLE.out, by go_num, by rw [HNX.out]; rfl, OW.below HO.out (HBD.out _), HER.out.below (HBD.out _), HKR.out.trans (Kp.of_below (HBD.out _))⟩
            case measure => have := HLE.out; simp [intOf]; omega
          | false =>
            by_cases hxb : x = b
            · subst hxb
              have hd : decide ((x : Int) = (x : Int)) = true := decide_eq_true rfl
              go_wp2_with fail
              go_quiet (fail)
              go_wp2
              go_roundw
              case rel => exact ⟨i + 1, HLE.out, by go_num, by rw [HNX.out]; simp, OW.below HO.out (HBD.out _), HER.out.below (HBD.out _), HKR.out.trans (Kp.of_below (HBD.out _))⟩
              case measure => have := HLE.out; simp [intOf]; omega
            · have hd0 : ¬ (x : Int) = (b : Int) := by omega
              have hd : decide ((x : Int) = (b : Int)) = false := decide_eq_false hd0
              have hbe : ((x : Int) == (b : Int)) = false := by simpa using hd0
              have HXB := Lib.hid hxb
              clear hxb
              go_wp2_with fail
              go_quiet (fail)
              go_wp2
              go_roundw
              case rel => exact ⟨i + 1, HLE.out, by go_num, by rw [HNX.out, decide_eq_false HXB.out]; rfl, OW.below HO.out (HBD.out _), HER.out.below (HBD.out _), HKR.out.trans (Kp.of_below (HBD.out _))⟩
              case measure => have := HLE.out; simp [intOf]; omega
        · obtain rfl : i = m := by omega
          have e : ins.take i = ins := List.take_of_length_le (by have := HM.out; omega)
          rw [e]
          have hmw : IntKind.i64.wrap (i : Int) = (i : Int) := IntWalk.i64_in _ (by omega)
          clear e hi him
          obtain ⟨cl, bo, bf, ⟨t1, t2, t3⟩, hcase⟩ := told R ins b
          have CPK : Hid (∀ w', Calls Tryz.prog 12 #[.int .u8 (b : Nat), .int .i64 60] w' fun e w'' => ∃ g c, e = .returned (.slice (some ⟨g, 0, none⟩) 60 c) ∧ FrAt w'' g 0 60 c (pbB b 46) ∧ Below w'.heap.size w' w'' ∧ w'.heap.size ≤ g) := Lib.hid fun w' => packet_made b 46 w' HBB.out (by decide) (by decide)
          have CFR : Hid (∀ (Y : Nat → Prop) (w1 : World) (g cc : Nat), EngF Y eb F R k ins w1 → FrAt w1 g 0 60 cc (pbB b 46) → Y g → Calls Tryz.prog 11 #[.pointer (some ⟨eb, 0, none⟩), .slice (some ⟨g, 0, none⟩) 60 cc, .agg dz] w1 fun e w' => e = .returned (.agg #[.int .i64 (k : Nat), .int .i64 0, .int .i64 cl, .int .i64 (-1), .bool bo, .bool bf]) ∧ EngF Y eb F R (k + 1) (nxtI R ins b) w' ∧ Kp Y w1 w') := Lib.hid fun Y w1 g cc q hf hg => by
            have := full_frame q HFF.out HKK.out.1 g cc b HBB.out hf hg
            rw [t1, t2, t3] at this
            rw [← HDZ.out]
            exact this
          have hvt : (Tryz.prog.info? 35).map (·.size) = some 6 := by kernel_rfl
          have HVT := Lib.hid hvt
          rw [HM.out] at hcase
          obtain ⟨fr, hfr⟩ : ∃ fr, decide ((i : Int) < (R : Int)) = fr := ⟨_, rfl⟩
          have hcl := HC2.out _ HKR.out
          clear t1 t2 t3 hvt hm8
          go_wp2_with fail
          refine (CPK.out _).mono ?_
          rintro e w8 ⟨g, cc, rfl, hf, hBp, hge⟩
          have hE8 := HER.out.mine hBp hge hf.blk
          have HO8 := Lib.hid (OW.below HO.out hBp)
          have HK8 := Lib.hid (HKR.out.trans (Kp.of_below hBp))
          have CF := Lib.hid (CFR.out _ _ g cc hE8 hf (.inr rfl))
          have hdb := HDB.out w8
          clear hf hBp hge hcl hE8 HO HER HKR
          go_wp2_with ((with_reducible refine arm_build 72 41 _ #[] _ hdb ?_ ?_); (first | rfl | simp [Act.eval]))
          refine CF.out.mono ?_
          rintro e w9 ⟨rfl, hE9, hK9⟩
          have HE9 := Lib.hid (hE9.sub (Z := fun j => j < H ∨ (Value.slice A i cap).ownBlock = some j) (fun j hj => .inl hj))
          have HO9 := Lib.hid (own_keep HO8.out hK9 (fun g' hg' => .inl (.inr hg')))
          have HK9 := Lib.hid (HK8.out.trans (hK9.sub (fun j hj => .inl (.inl hj))))
          clear hE9 hK9 CF hdb HO8 HK8 CFR CPK
          go_upto_region 17 with (first | ((with_reducible refine arm_alloc 14 35 VZ1 6 HVZ.out ?_); intro w10 HB10 HX10 HS10; have hst := box_store (t := 35) (x := #[.int .i64 (k : Nat), .int .i64 0, .int .i64 cl, .int .i64 (-1), .bool bo, .bool bf]) HX10.out HVT.out (by kernel_rfl) HVZS.out) | ((with_reducible refine arm_store 14 73 35 _ _ _ hst ?_ ?_ ?_); rfl; rfl))
          have hX11 := box_whole HX10.out (cs := #[.int .i64 (k : Nat), .int .i64 0, .int .i64 cl, .int .i64 (-1), .bool bo, .bool bf]) HVZS.out.symm
          have hB11 := below_setCells (b := w9.heap.size) (Nat.le_refl _) (#[.int .i64 (k : Nat), .int .i64 0, .int .i64 cl, .int .i64 (-1), .bool bo, .bool bf] : Array Value).toList 0 HB10.out
          have HE11 := Lib.hid (HE9.out.below hB11)
          have HO11 := Lib.hid (OW.below HO9.out hB11)
          have HK11 := Lib.hid (HK9.out.trans (Kp.of_below hB11))
          clear hB11 hst HB10 HX10 HS10 HE9 HO9 HK9
          generalize w10.setCells w9.heap.size 0 _ = w11 at *
          generalize w9.heap.size = vb at *
          have v1 := cells_of_row hX11 1 _ rfl
          have v2 := cells_of_row hX11 2 _ rfl
          have v4 := cells_of_row hX11 4 _ rfl
          have v5 := cells_of_row hX11 5 _ rfl
          have c7' := (C7.out _ HK11.out).1
          have hcl := HC2.out _ HK11.out
          clear hX11
          rcases hcase with ⟨hth, rfl, rfl, rfl, hnx⟩ | ⟨hth, hfl, rfl, rfl, rfl, hnx⟩ | ⟨hth, hfl, rfl, rfl, rfl, hnx⟩
          · rw [hth]
            rw [hnx] at HE11
            clear hth hnx
            go_wp2
            go_roundw
            case rel => exact ⟨k + 1, ins, A, cap, HKK.out.2, by go_num, by rw [HM.out], by rw [HM.out]; exact HO11.out, by rw [HM.out]; exact HE11.out, HK11.out⟩
            case measure => have := HKK.out; simp [intOf]; omega
          · rw [hth]
            rw [hnx] at HE11
            obtain rfl : fr = true := by rw [← hfr]; exact decide_eq_true (by omega)
            have hfi : (i : Int) < (R : Int) := by omega
            clear hth hnx hfl
            go_wp2_with (at_builtin; go_must (refine wpList_append_own_at _ rfl (.tmp 115) (.tmp 120) 37 rfl H 5 i0 (.int .u8 0) 1 1 Tryz.underlying37 Hi.out Hz0.out Hz1.out Hz2.out rfl (by omega) (.slice A i cap) i (bv ins) rfl (by exact World.ownsRow.alloc (w := w11) HO11.out _) ⟨w11.heap.size, 0, none⟩ 1 1 [.int .u8 (b : Nat)] rfl ?hl ?hn ?h1c ?h63 ?hb ?hbase ?next))
            case hl => rfl
            case hn =>
              intro j v hv
              rw [OW.addr_off, Nat.zero_add, cell_of_row _ _ _ _ _ _ (Go.heap_alloc_new w11 _)]
              simpa using hv
            case h1c => intro u hu; simp at hu; subst hu; rfl
            case h63 => simp only [maxLen]; have := HM8.out; omega
            case hb => have := HM8.out; omega
            case hbase => simp; have := HK11.out.size; have := HHI.out; omega
            case next =>
              intro v' w' hown hg _ hat
              obtain ⟨A2, cap2, rfl⟩ := OW.slice hown
              have hB12 : Below w11.heap.size w11 (w11.alloc (.cells #[.int .u8 (b : Nat)] 5)) := (Below.refl _ _).alloc (Nat.le_refl _) _
              have hE12 := HE11.out.below hB12
              have hKg : Kp (fun j => j < H) (w11.alloc (.cells #[.int .u8 (b : Nat)] 5)) w' := ⟨hg.os, hg.tape, hg.output, hg.size, fun j hj hz => hg.block j hj (fun e => by
                have := (World.ownsRow.lt HO11.out j e.symm).1
                omega)⟩
              have HK13 := Lib.hid ((HK11.out.trans (Kp.of_below hB12)).trans hKg)
              have hlen : (ins ++ [b]).length = i + 1 := by rw [List.length_append, HM.out]; rfl
              have HE13 : Hid (EngF (fun j => j < H ∨ (Value.slice A2 (i + 1) cap2).ownBlock = some j) eb F R (k + 1) (ins ++ [b]) w') := Lib.hid (by
                rcases hat with h | h
                · exact (hE12.grown hg (fun j h => .inr h)).sub fun j hj => hj.imp id fun h2 => by rw [h] at h2; exact h2
                · exact (hE12.grown2 (x := w11.heap.size + 1) hg (fun j h => .inr h) (by simp) (World.ownsRow.lt hown _ h).2).sub fun j hj => hj.elim (fun h2 => .inl (.inl h2)) fun h2 => .inr (by rw [h] at h2; injection h2 with h2; exact h2.symm))
              have HO13 : Hid (w'.ownsRow H 5 1 (.slice A2 (i + 1) cap2) (i + 1) (bv (ins ++ [b]))) := Lib.hid (by
                rw [show bv (ins ++ [b]) = bv ins ++ [.int .u8 (b : Nat)] by simp [bv]]
                exact hown)
              have HLN := Lib.hid hlen
              clear hown hg hat hB12 hE12 hKg hlen HE11 HO11 HK11 hcl c7' v1 v2 v4 v5
              go_wp2
              go_roundw
              case rel => exact ⟨k + 1, ins ++ [b], A2, cap2, HKK.out.2, by go_num, by rw [HLN.out], by rw [HLN.out]; exact HO13.out, by rw [HLN.out]; exact HE13.out, HK13.out⟩
              case measure => have := HKK.out; simp [intOf]; omega
          · rw [hth]
            rw [hnx] at HE11
            obtain rfl : fr = false := by rw [← hfr]; exact decide_eq_false (by omega)
            have hfi : ¬ (i : Int) < (R : Int) := by omega
            clear hth hnx hfl
            go_wp2
            go_roundw
            case rel => exact ⟨k + 1, ins, A, cap, HKK.out.2, by go_num, by rw [HM.out], by rw [HM.out]; exact HO11.out, by rw [HM.out]; exact HE11.out, HK11.out⟩
            case measure => have := HKK.out; simp [intOf]; omega
end Go.Proofs.YtpanmfdbdgecaaaGreat.C

namespace Go.Proofs.YtpanmfdbdgecaaaGreat.C
open Go.RowKit
set_option linter.unusedVariables false
set_option maxRecDepth 100000 in
/-- Not for these numbers: the program is awake. -/
theorem full_skip (kv : Array Value) (room : Int) (a2 : Option Addr) (n2 c2 : Nat) (w : World) (hm2 : n2 ≤ 9223372036854775807) (hno : 30 < n2) :
    Calls Tryz.prog 4 #[.agg kv, .int .u8 room, .slice a2 n2 c2] w fun e w' => e = .returned (.bool true) ∧ Below w.heap.size w w' := by
  have CA := Lib.hid awake_is
  have d0 : decide (30 < n2) = true := decide_eq_true hno
  have e0 : (30 : Int) < (n2 : Int) := by omega
  refine calls_hide fun Q HQ => ?_
  go_enter Tryz.func4, Tryz.ntmps4
  go_upto_region 1 with ((with_reducible refine arm_box 3 0 22 kv rfl ?_); intro w1 HB1 HX1 HS1)
  have B2 := Lib.hid HB1.out
  clear HB1 HX1 HS1
  go_wp2_with fail
  refine (CA.out _).mono ?_
  rintro e w3 ⟨rfl, hB3⟩
  have B3 := Lib.hid (B2.out.trans (hB3.mono B2.out.size))
  clear hB3 B2
  go_wp2_with fail
  refine (CA.out _).mono ?_
  rintro e w4 ⟨rfl, hB4⟩
  have B4 := Lib.hid (B3.out.trans (hB4.mono B3.out.size))
  clear hB4 B3
  go_wp2
  exact HQ.out _ _ ⟨rfl, B4.out⟩
theorem walk_full (kv : Array Value) (room : Int) (a2 : Option Addr) (l2 c2 : Nat) (z2 : List Int) (w : World) (h0 : ∃ K, Key16 kv K) (h1 : (Lit.int .u8 room).wf = true) (h2 : IsRow .u8 w a2 l2 c2 z2) :
    Calls Tryz.prog 4 #[.agg kv, .int .u8 room, .slice a2 l2 c2] w fun e w' => e = .returned (.bool true) ∧ Below w.heap.size w w' := by
  obtain ⟨K, hk⟩ := h0
  obtain ⟨K2, rfl, hN2, hm2⟩ := nums_of h2
  rcases Nat.lt_or_ge 30 K2.length with q1 | q1
  · exact full_skip kv room a2 _ c2 w hm2 q1
  · exact full_main kv K room a2 K2 c2 w hk h1 q1 hN2
end Go.Proofs.YtpanmfdbdgecaaaGreat.C
