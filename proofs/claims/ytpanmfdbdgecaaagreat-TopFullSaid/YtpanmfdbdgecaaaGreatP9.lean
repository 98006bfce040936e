/- The box: several are in it, nobody goes. · The sketch: where a prefix is. · The sketch: Add, Reset. -/
import Derived.Test.YtpanmfdbdgecaaaGreatP8
import Derived.Deep.RegionLaw
import Derived.StillTailTactics
namespace Go.Proofs.YtpanmfdbdgecaaaGreat.C
open Go.RowKit
set_option linter.unusedVariables false
/-- Who is in the table is in it for longer. -/
def Stays (l : List Plc) (now : Int) : Prop := ∀ p ∈ tkn l, ∃ (p0 p1 p2 : Nat) (til : Int) (tk : Option Addr), p = pfx p0 p1 p2 ∧ Gets l p0 p1 p2 til tk true ∧ now < til
theorem Stays.allB {l : List Plc} {now : Int} (h : Stays l now) : AllB (tkn l) := fun p hp => by
  obtain ⟨p0, p1, p2, til, tk, rfl, _⟩ := h p hp
  exact pfx_b p0 p1 p2
set_option maxRecDepth 100000 in
set_option maxHeartbeats 2000000 in
theorem sweep_many (xb pb b room : Nat) (l : List Plc) (nn term rate burst now : Int) (w : World) (h : BxAt w xb pb b l room nn term rate burst) (hl1 : l.length ≤ 65536) (hm : (tkn l).length ≤ 8) (hst : Stays l now) (hn0 : 0 ≤ now) :
    Calls Tryz.prog 68 #[.pointer (some ⟨xb, 0, none⟩), .int .i64 now] w fun e w' => e = .returned (.bool true) ∧ BxAt w' xb pb b l room nn term rate burst ∧ Below w.heap.size w w' := by
  have CA := Lib.hid (table_many pb b room l nn w h.tb hl1 hm hst.allB)
  have k0 := h.cells.1
  have HH := Lib.hid h
  have HST := Lib.hid hst
  clear h hst
  have hmx : (if now < 0 then (0 : Int) else now) = now := if_neg (by omega)
  have hmx2 : (if (0 : Int) < now then now else 0) = now := by split <;> omega
  have hpz := pfz_zero
  obtain ⟨PZ', hPZ⟩ : ∃ Z, PfZ = Z := ⟨_, rfl⟩
  have hpzs : PZ'.size = 8 := by rw [← hPZ]; rfl
  rw [hPZ] at hpz
  have HPZ := Lib.hid hpz
  have HPZS := Lib.hid hpzs
  clear hpz hpzs hPZ
  go_enter Tryz.func68, Tryz.ntmps68
  go_wp2_with fail
  refine CA.out.mono ?_
  rintro e w1 ⟨M, A, c, rfl, hln, hM, hP, hb⟩
  have HB := Lib.hid hb
  have HM := Lib.hid hM
  have HP := Lib.hid hP
  have hm9 : M.length ≤ 8 := by omega
  obtain ⟨n, hn⟩ : ∃ n, M.length = n := ⟨_, rfl⟩
  have HN := Lib.hid hn
  rw [hn] at hm9 ⊢
  clear hb CA k0 hM hP hn hln hm
  go_wp2_with fail
  go_loopw [17] (fun t wr => ∃ k : Nat, k ≤ n ∧ t = .int .i64 (k : Nat) ∧ Below w1.heap.size w1 wr) (fun t _ => n - (intOf t).toNat)
  case atStart => exact ⟨0, by omega, rfl, Below.refl _ _⟩
  case round =>
    obtain ⟨k, hk, rfl, hB2⟩ := hrel
    have HB2 := Lib.hid hB2
    clear hB2
    have hs1 := HB.out.size
    by_cases hkn : k = n
    · subst hkn
      have hB := HB.out.trans (HB2.out.mono hs1)
      have HX := Lib.hid (HH.out.below hB)
      have HF := Lib.hid hB
      clear hB
      go_wp2
      go_ret
      exact ⟨rfl, HX.out, HF.out⟩
    · have hlt : (k : Int) < (n : Int) := by omega
      obtain ⟨p, hp⟩ : ∃ p, M[k]? = some p := ⟨_, List.getElem?_eq_getElem (by rw [HN.out]; omega)⟩
      obtain ⟨g, rfl, hg, hPR⟩ := HP.out (by intro e; have := HN.out; rw [e] at this; simp at this; omega)
      obtain ⟨p0, p1, p2, til, tk, hpe, hget, htl⟩ := HST.out p (HM.out p (List.mem_of_getElem? hp))
      have HCG : Hid (∀ w', TbAt w' pb b l room nn → Calls Tryz.prog 69 #[.pointer (some ⟨pb, 0, none⟩), .agg p] w' fun e w'' => e = .returned (.tuple #[.agg #[.int .i64 til, .pointer tk], .bool true]) ∧ Below w'.heap.size w' w'') := Lib.hid fun w' q => by
        rw [hpe]
        exact table_get hget w' q
      have hpo : p.size = 8 ∧ p.all (·.oneCell') = true := by rw [hpe]; exact pfx_ok p0 p1 p2
      have HPO := Lib.hid hpo
      have HPS := Lib.hid (show (Tryz.prog.info? 65).map (·.size) = some p.size by rw [hpo.1]; exact pf_size)
      have hld := (hPR.below HB2.out).load hp hpo.1
      have hkw : IntKind.i64.wrap ((k : Int) + 1) = ((k + 1 : Nat) : Int) := by rw [IntWalk.i64_in _ (by omega)]; omega
      have HTL := Lib.hid htl
      clear hp hPR hg hpe hget hpo htl
      have hs2 := HB2.out.size
      go_upto_region 6 with (first
        | ((with_reducible refine arm_load 20 19 65 _ _ hld ?_ ?_); rfl)
        | ((with_reducible refine arm_alloc 6 65 PZ' 8 HPZ.out ?_); intro w5 HB5 HX5 HS5; have hst := box_store (t := 65) (x := p) HX5.out HPS.out HPO.out.2 (HPZS.out.trans HPO.out.1.symm); have hbx := Lib.hid (box_whole (cs := p) HX5.out (HPO.out.1.trans HPZS.out.symm)); have hf5 := Lib.hid (below_setCells (b := wr.heap.size) (Nat.le_refl _) p.toList 0 HB5.out))
        | ((with_reducible refine arm_store 6 20 65 _ _ _ hst ?_ ?_ ?_); rfl; rfl))
      have B6 := Lib.hid (HB.out.trans ((HB2.out.trans (hf5.out.mono hs2)).mono hs1))
      have B6w := Lib.hid (HB2.out.trans (hf5.out.mono hs2))
      have P6 := Lib.hid hbx.out
      clear hst hld hbx hf5 HX5 HB5 HS5
      generalize World.setCells w5 _ 0 p.toList = w6 at *
      generalize wr.heap.size = xpb at *
      have HX6 := Lib.hid (HH.out.below B6.out)
      have HL : Hid (∀ w', Below w6.heap.size w6 w' → w'.cell? ⟨xb, 0, none⟩ = some (.pointer (some ⟨pb, 0, none⟩)) ∧ (Instr.loadAt 65 (.pointer (some ⟨xpb, 0, none⟩))).run Tryz.prog w' = .ok (.agg p) w') := Lib.hid fun w' q => ⟨(HX6.out.below q).cells.1, box_load (t := 65) (keep_block q P6.out) _ Tryz.underlying65 rfl HPS.out⟩
      have CG : Hid (∀ w', Below w6.heap.size w6 w' → Calls Tryz.prog 69 #[.pointer (some ⟨pb, 0, none⟩), .agg p] w' fun e w'' => e = .returned (.tuple #[.agg #[.int .i64 til, .pointer tk], .bool true]) ∧ Below w'.heap.size w' w'') := Lib.hid fun w' q => HCG.out w' (HX6.out.below q).tb
      go_wp2_with fail
      refine wp_region_held_drew (S := Below w6.heap.size w6) (by kernel_rfl) (Below.refl _ _).drew (fun hHeld => ?_)
      refine wpAnyH_take (i := 0) (oi := ⟨some 22, _, _, _, _, _⟩) (v := ?_) rfl (by kernel_rfl) (by kernel_rfl) (by kernel_rfl) (fun _ _ _ h => h) (Or.inl ⟨by rfl, ?_⟩) hHeld ?_
      rotate_left
      · intro w hSw
        go_simp
        try with_reducible rfl
      try simp only [Act.put, List.setIfInBounds_toArray, List.set_cons_zero, List.set_cons_succ]
      refine wpAnyH_take (i := 1) (oi := ⟨some 23, _, _, _, _, _⟩) (v := ?_) rfl (by kernel_rfl) (by kernel_rfl) (by kernel_rfl) (fun _ _ _ h => h) (Or.inl ⟨by rfl, ?_⟩) hHeld ?_
      rotate_left
      · intro w hSw
        go_simp
        try with_reducible rfl
      try simp only [Act.put, List.setIfInBounds_toArray, List.set_cons_zero, List.set_cons_succ]
      refine wpAnyH_take (i := 2) (oi := ⟨some 24, _, _, _, _, _⟩) (v := ?_) rfl (by kernel_rfl) (by kernel_rfl) (by kernel_rfl) (fun _ _ _ h => h) (Or.inl ⟨by rfl, ?_⟩) hHeld ?_
      rotate_left
      · intro w hSw
        go_simp
        try with_reducible rfl
      try simp only [Act.put, List.setIfInBounds_toArray, List.set_cons_zero, List.set_cons_succ]
      refine wpAnyH_take (i := 3) (oi := ⟨some 25, _, _, _, _, _⟩) (v := ?_) rfl (by kernel_rfl) (by kernel_rfl) (by kernel_rfl) (fun _ _ _ h => h) (Or.inl ⟨by rfl, ?_⟩) hHeld ?_
      rotate_left
      · intro w hSw
        obtain ⟨k0, _⟩ := HL.out w hSw
        go_simp
        try with_reducible rfl
      try simp only [Act.put, List.setIfInBounds_toArray, List.set_cons_zero, List.set_cons_succ]
      refine wpAnyH_take (i := 4) (oi := ⟨some 26, _, _, _, _, _⟩) (v := .agg p) rfl (by kernel_rfl) (by kernel_rfl) (by kernel_rfl) (fun _ _ _ h => h) (Or.inl ⟨by rfl, fun w hSw => exec_load rfl (HL.out w hSw).2⟩) hHeld ?_
      try simp only [Act.put, List.setIfInBounds_toArray, List.set_cons_zero, List.set_cons_succ]
      refine wpAnyH_ready (rs := [5, 9]) (by kernel_rfl) (by simp) ?_
      refine AllReadyH.cons rfl (fun K hK => ?_) (AllReadyH.cons rfl (fun K hK => ?_) AllReadyH.nil)
      · skip
        go_simp
        go_wp2_with (go_at_call 69; go_must (refine (CG.out _ hHeld).mono ?_; rintro e w5 ⟨rfl, hB⟩))
        refine hK.out _ _ (hHeld.trans (hB.mono hHeld.size)) (fun hHeld => ?_)
        clear hK K
        refine wpAnyH_take (i := 6) (oi := ⟨some 21, _, _, _, _, _⟩) (v := ?_) rfl (by kernel_rfl) (by kernel_rfl) (by kernel_rfl) (fun _ _ _ h => h) (Or.inl ⟨by rfl, ?_⟩) hHeld ?_
        rotate_left
        · intro w hSw
          go_simp
          try with_reducible rfl
        try simp only [Act.put, List.setIfInBounds_toArray, List.set_cons_zero, List.set_cons_succ]
        refine wpAnyH_take (i := 7) (oi := ⟨some 28, _, _, _, _, _⟩) (v := ?_) rfl (by kernel_rfl) (by kernel_rfl) (by kernel_rfl) (fun _ _ _ h => h) (Or.inl ⟨by rfl, ?_⟩) hHeld ?_
        rotate_left
        · intro w hSw
          go_simp
          try with_reducible rfl
        try simp only [Act.put, List.setIfInBounds_toArray, List.set_cons_zero, List.set_cons_succ]
        refine wpAnyH_take (i := 8) (oi := ⟨some 29, _, _, _, _, _⟩) (v := ?_) rfl (by kernel_rfl) (by kernel_rfl) (by kernel_rfl) (fun _ _ _ h => h) (Or.inl ⟨by rfl, ?_⟩) hHeld ?_
        rotate_left
        · intro w hSw
          go_simp
          try with_reducible rfl
        try simp only [Act.put, List.setIfInBounds_toArray, List.set_cons_zero, List.set_cons_succ]
        refine wpAnyH_ready (rs := [9]) (by kernel_rfl) (by simp) ?_
        refine AllReadyH.cons rfl (fun K hK => ?_) AllReadyH.nil
        have hS9 := hHeld.size; refine step_alloc 7 199 EZ 2 ez_zero ?_; intro W9 HB9 HX9 HS9
        refine hK.out _ _ (hHeld.trans (HB9.out.mono hHeld.size)) (fun hHeld => ?_)
        clear hK K
        refine wpAnyH_ready (rs := [10]) (by kernel_rfl) (by simp) ?_
        refine AllReadyH.cons rfl (fun K hK => ?_) AllReadyH.nil
        have HBX := Lib.hid (box_whole (cs := #[.int .i64 til, .pointer tk]) HX9.out rfl); refine step_store 7 28 199 _ _ _ (box_store (x := #[.int .i64 til, .pointer tk]) HX9.out ent_size (by kernel_rfl) rfl) rfl rfl ?_
        refine hK.out _ _ (below_setCells hS9 _ _ hHeld) (fun hHeld => ?_)
        clear hK K
        refine wpAnyH_take (i := 11) (oi := ⟨some 8, _, _, _, _, _⟩) (v := ?_) rfl (by kernel_rfl) (by kernel_rfl) (by kernel_rfl) (fun _ _ _ h => h) (Or.inl ⟨by rfl, ?_⟩) hHeld ?_
        rotate_left
        · intro w hSw
          go_simp
          try with_reducible rfl
        try simp only [Act.put, List.setIfInBounds_toArray, List.set_cons_zero, List.set_cons_succ]
        refine wpAnyH_done (by kernel_rfl) ?_ _
        have HE := Lib.hid hHeld
        clear hHeld
        try simp only [Act.put, List.setIfInBounds_toArray, List.set_cons_zero, List.set_cons_succ]
        generalize World.setCells _ _ 0 (#[.int .i64 til, .pointer tk] : Array Value).toList = wE at *
        have k9 := cells_of_row HBX.out 0 _ rfl
        try have k9' : wE.cell? ⟨w6.heap.size, 0, none⟩ = some (.int .i64 til) := k9
        have hB9 := Lib.hid (B6w.out.trans (HE.out.mono B6w.out.size))
        have hd : ¬ til ≤ now := by have := HTL.out; omega
        have hdd : decide (til ≤ now) = false := decide_eq_false hd
        go_wp2
        go_roundw
        case rel => exact ⟨k + 1, by omega, by go_num, hB9.out⟩
        case measure => simp [intOf]; omega
      · skip
        have hS9 := hHeld.size; refine step_alloc 7 199 EZ 2 ez_zero ?_; intro W9 HB9 HX9 HS9
        refine hK.out _ _ (hHeld.trans (HB9.out.mono hHeld.size)) (fun hHeld => ?_)
        clear hK K
        refine wpAnyH_ready (rs := [5]) (by kernel_rfl) (by simp) ?_
        refine AllReadyH.cons rfl (fun K hK => ?_) AllReadyH.nil
        go_simp
        go_wp2_with (go_at_call 69; go_must (refine (CG.out _ hHeld).mono ?_; rintro e w5 ⟨rfl, hB⟩))
        refine hK.out _ _ (hHeld.trans (hB.mono hHeld.size)) (fun hHeld => ?_)
        clear hK K
        have HX10 := Lib.hid (keep_block hB HX9.out)
        refine wpAnyH_take (i := 6) (oi := ⟨some 21, _, _, _, _, _⟩) (v := ?_) rfl (by kernel_rfl) (by kernel_rfl) (by kernel_rfl) (fun _ _ _ h => h) (Or.inl ⟨by rfl, ?_⟩) hHeld ?_
        rotate_left
        · intro w hSw
          go_simp
          try with_reducible rfl
        try simp only [Act.put, List.setIfInBounds_toArray, List.set_cons_zero, List.set_cons_succ]
        refine wpAnyH_take (i := 7) (oi := ⟨some 28, _, _, _, _, _⟩) (v := ?_) rfl (by kernel_rfl) (by kernel_rfl) (by kernel_rfl) (fun _ _ _ h => h) (Or.inl ⟨by rfl, ?_⟩) hHeld ?_
        rotate_left
        · intro w hSw
          go_simp
          try with_reducible rfl
        try simp only [Act.put, List.setIfInBounds_toArray, List.set_cons_zero, List.set_cons_succ]
        refine wpAnyH_take (i := 8) (oi := ⟨some 29, _, _, _, _, _⟩) (v := ?_) rfl (by kernel_rfl) (by kernel_rfl) (by kernel_rfl) (fun _ _ _ h => h) (Or.inl ⟨by rfl, ?_⟩) hHeld ?_
        rotate_left
        · intro w hSw
          go_simp
          try with_reducible rfl
        try simp only [Act.put, List.setIfInBounds_toArray, List.set_cons_zero, List.set_cons_succ]
        refine wpAnyH_ready (rs := [10]) (by kernel_rfl) (by simp) ?_
        refine AllReadyH.cons rfl (fun K hK => ?_) AllReadyH.nil
        have HBX := Lib.hid (box_whole (cs := #[.int .i64 til, .pointer tk]) HX10.out rfl); refine step_store 7 28 199 _ _ _ (box_store (x := #[.int .i64 til, .pointer tk]) HX10.out ent_size (by kernel_rfl) rfl) rfl rfl ?_
        refine hK.out _ _ (below_setCells hS9 _ _ hHeld) (fun hHeld => ?_)
        clear hK K
        refine wpAnyH_take (i := 11) (oi := ⟨some 8, _, _, _, _, _⟩) (v := ?_) rfl (by kernel_rfl) (by kernel_rfl) (by kernel_rfl) (fun _ _ _ h => h) (Or.inl ⟨by rfl, ?_⟩) hHeld ?_
        rotate_left
        · intro w hSw
          go_simp
          try with_reducible rfl
        try simp only [Act.put, List.setIfInBounds_toArray, List.set_cons_zero, List.set_cons_succ]
        refine wpAnyH_done (by kernel_rfl) ?_ _
        have HE := Lib.hid hHeld
        clear hHeld
        try simp only [Act.put, List.setIfInBounds_toArray, List.set_cons_zero, List.set_cons_succ]
        generalize World.setCells _ _ 0 (#[.int .i64 til, .pointer tk] : Array Value).toList = wE at *
        have k9 := cells_of_row HBX.out 0 _ rfl
        try have k9' : wE.cell? ⟨w6.heap.size, 0, none⟩ = some (.int .i64 til) := k9
        have hB9 := Lib.hid (B6w.out.trans (HE.out.mono B6w.out.size))
        have hd : ¬ til ≤ now := by have := HTL.out; omega
        have hdd : decide (til ≤ now) = false := decide_eq_false hd
        go_wp2
        go_roundw
        case rel => exact ⟨k + 1, by omega, by go_num, hB9.out⟩
        case measure => simp [intOf]; omega
theorem sweeps_many {xb pb b room : Nat} {l : List Plc} {nn term rate burst now : Int} (hl1 : l.length ≤ 65536) (hm : (tkn l).length ≤ 8) (hst : Stays l now) (hn0 : 0 ≤ now) : Sweeps xb pb b room l nn term rate burst now l nn := fun w h => by
  refine (sweep_many xb pb b room l nn term rate burst now w h hl1 hm hst hn0).mono ?_
  rintro e w' ⟨rfl, h1, h2⟩
  exact ⟨rfl, h1, two_ofB h2⟩
set_option maxRecDepth 100000 in
theorem box_all_many (xb pb b room : Nat) (l : List Plc) (nn term rate burst now : Int) (w : World) (h : BxAt w xb pb b l room nn term rate burst) (hl1 : l.length ≤ 65536) (hm : (tkn l).length ≤ 8) (hst : Stays l now) (hn0 : 0 ≤ now) :
    Calls Tryz.prog 57 #[.pointer (some ⟨xb, 0, none⟩), .int .i64 now] w fun e w' => (∃ A c, e = .returned (.slice A (tkn l).length c)) ∧ BxAt w' xb pb b l room nn term rate burst ∧ Two pb b w w' := by
  have CS := Lib.hid (sweeps_many (xb := xb) (pb := pb) (b := b) (room := room) (nn := nn) (term := term) (rate := rate) (burst := burst) hl1 hm hst hn0 w h)
  have HM := Lib.hid hm
  have HAB := Lib.hid hst.allB
  clear h hst hm
  go_enter Tryz.func57, Tryz.ntmps57
  go_wp2_with fail
  refine CS.out.mono ?_
  rintro e w2 ⟨rfl, hX2, hT2⟩
  have k0 := hX2.cells.1
  have CA := Lib.hid (table_many pb b room l nn w2 hX2.tb hl1 HM.out HAB.out)
  have HX2 := Lib.hid hX2
  have T2 := Lib.hid hT2
  clear hX2 hT2 CS
  go_wp2_with fail
  refine CA.out.mono ?_
  rintro e w3 ⟨M, A, c, rfl, hln, _, _, hb⟩
  have HB := Lib.hid hb
  have HLN := Lib.hid hln
  clear hb CA hln
  go_wp2
  go_ret
  exact ⟨⟨A, c, by rw [HLN.out]; rfl⟩, HX2.out.below HB.out, T2.out.trans (two_ofB HB.out)⟩
set_option maxRecDepth 100000 in
set_option maxHeartbeats 1000000 in
theorem table_full (pb b room : Nat) (l : List Plc) (nn : Int) (p0 p1 p2 : Nat) (s til : Int) (tok : Option Nat) (w : World) (h : TbAt w pb b l room nn) (hpf : ∀ x ∈ l, Flat Tryz.prog 65 x.p) (h0 : p0 < 256) (h1 : p1 < 256) (h2 : p2 < 256) (hl0 : 1 ≤ l.length) (hl1 : l.length ≤ 65536) (hat : at1 l p0 p1 p2 = (-1, s)) (hnr : nn = room) :
    Calls Tryz.prog 72 #[.pointer (some ⟨pb, 0, none⟩), .agg (pfx p0 p1 p2), .agg #[.int .i64 til, tokV tok]] w fun e w' => e = .returned (.bool false) ∧ Below w.heap.size w w' := by
  have hps : (Tryz.prog.info? 65).map (·.size) = some (pfx p0 p1 p2).size := pf_size
  have hC := fun (w' : World) (q : Below w.heap.size w w') => table_find pb b room l nn p0 p1 p2 w' (h.below q) hpf h0 h1 h2 hl0 hl1
  unfold at1 at hat
  rw [hat] at hC
  have hpo := pfx_ok p0 p1 p2
  have HC := Lib.hid hC
  have HPS := Lib.hid hps
  have HH := Lib.hid h
  have hroom : room ≤ 65536 := by
    have := h.len
    omega
  have HPO := Lib.hid hpo

  clear hC hps hat h hpf hpo
  generalize pfx p0 p1 p2 = p at *
  obtain ⟨ev, hev⟩ : ∃ e, (#[.int .i64 til, tokV tok] : Array Value) = e := ⟨_, rfl⟩
  have hes : (Tryz.prog.info? 199).map (·.size) = some ev.size := by rw [← hev]; exact ent_size
  rw [hev]
  have HES := Lib.hid hes
  clear hes hev
  obtain ⟨n, hn⟩ : ∃ n, l.length = n := ⟨_, rfl⟩
  have HN := Lib.hid hn
  rw [hn] at hl0 hl1
  clear hn
  have hnb : (nn == (room : Int)) = true := by rw [hnr]; exact beq_self_eq_true _
  go_enter Tryz.func72, Tryz.ntmps72
  go_upto_region 1 with (first | ((with_reducible refine arm_box 4 1 65 p ?_ ?_); rfl; intro w1 HB1 HX1 HS1) | ((with_reducible refine arm_box 5 2 199 ev ?_ ?_); rfl; intro w2 HB2 HX2 HS2))
  have B2 := Lib.hid (HB1.out.trans (HB2.out.mono HB1.out.size))
  have P2 := Lib.hid (keep_block HB2.out HX1.out)
  have hld := box_load (t := 65) P2.out _ Tryz.underlying65 rfl HPS.out
  have hle1 := HB1.out.size
  have E2 := Lib.hid HX2.out
  clear HX1 HX2
  generalize w1.heap.size = eb at *
  go_wp2_with ((with_reducible refine arm_load 11 4 65 _ _ hld ?_ ?_); rfl)
  refine (HC.out w2 B2.out).mono ?_
  rintro e w3 ⟨rfl, hb⟩
  have B3 := Lib.hid (B2.out.trans (hb.mono B2.out.size))
  have P3 := Lib.hid (keep_block hb P2.out)
  have E3 := Lib.hid (keep_block hb E2.out)
  have hT3 := HH.out.below B3.out
  have HT3 := Lib.hid hT3
  clear hb hld P2 E2 hT3
  have HL : Hid (∀ w', Below w3.heap.size w3 w' → w'.cell? ⟨pb, 0, none⟩ = some (.slice (some ⟨b, 0, none⟩) n n) ∧ w'.cell? ⟨pb, 1, none⟩ = some (.int .i64 (room : Nat)) ∧ w'.cell? ⟨pb, 2, none⟩ = some (.int .i64 nn)) := Lib.hid fun w' q => by
    obtain ⟨a0, a1, a2, _⟩ := (HT3.out.below q).cells
    rw [HN.out] at a0
    exact ⟨a0, a1, a2⟩
  go_wp2_with fail
  refine wp_region_held_drew (S := Below w3.heap.size w3) (by kernel_rfl) (Below.refl _ _).drew (fun hHeld => ?_)
  refine wpAnyH_take (i := 0) (oi := ⟨some 27, _, _, _, _, _⟩) (v := ?_) rfl (by kernel_rfl) (by kernel_rfl) (by kernel_rfl) (fun _ _ _ h => h) (Or.inl ⟨by rfl, ?_⟩) hHeld ?_
  rotate_left
  · intro w hSw
    go_simp
    try with_reducible rfl
  try simp only [Act.put, List.setIfInBounds_toArray, List.set_cons_zero, List.set_cons_succ]
  refine wpAnyH_take (i := 1) (oi := ⟨some 28, _, _, _, _, _⟩) (v := ?_) rfl (by kernel_rfl) (by kernel_rfl) (by kernel_rfl) (fun _ _ _ h => h) (Or.inl ⟨by rfl, ?_⟩) hHeld ?_
  rotate_left
  · intro w hSw
    go_simp
    try with_reducible rfl
  try simp only [Act.put, List.setIfInBounds_toArray, List.set_cons_zero, List.set_cons_succ]
  refine wpAnyH_take (i := 2) (oi := ⟨some 29, _, _, _, _, _⟩) (v := ?_) rfl (by kernel_rfl) (by kernel_rfl) (by kernel_rfl) (fun _ _ _ h => h) (Or.inl ⟨by rfl, ?_⟩) hHeld ?_
  rotate_left
  · intro w hSw
    go_simp
    try with_reducible rfl
  try simp only [Act.put, List.setIfInBounds_toArray, List.set_cons_zero, List.set_cons_succ]
  refine wpAnyH_take (i := 3) (oi := ⟨some 30, _, _, _, _, _⟩) (v := ?_) rfl (by kernel_rfl) (by kernel_rfl) (by kernel_rfl) (fun _ _ _ h => h) (Or.inl ⟨by rfl, ?_⟩) hHeld ?_
  rotate_left
  · intro w hSw
    go_simp
    try with_reducible rfl
  try simp only [Act.put, List.setIfInBounds_toArray, List.set_cons_zero, List.set_cons_succ]
  refine wpAnyH_take (i := 4) (oi := ⟨some 31, _, _, _, _, _⟩) (v := ?_) rfl (by kernel_rfl) (by kernel_rfl) (by kernel_rfl) (fun _ _ _ h => h) (Or.inl ⟨by rfl, ?_⟩) hHeld ?_
  rotate_left
  · intro w hSw
    go_simp
    try with_reducible rfl
  try simp only [Act.put, List.setIfInBounds_toArray, List.set_cons_zero, List.set_cons_succ]
  refine wpAnyH_take (i := 5) (oi := ⟨some 32, _, _, _, _, _⟩) (v := ?_) rfl (by kernel_rfl) (by kernel_rfl) (by kernel_rfl) (fun _ _ _ h => h) (Or.inl ⟨by rfl, ?_⟩) hHeld ?_
  rotate_left
  · intro w hSw
    go_simp
    try with_reducible rfl
  try simp only [Act.put, List.setIfInBounds_toArray, List.set_cons_zero, List.set_cons_succ]
  refine wpAnyH_take (i := 6) (oi := ⟨some 33, _, _, _, _, _⟩) (v := ?_) rfl (by kernel_rfl) (by kernel_rfl) (by kernel_rfl) (fun _ _ _ h => h) (Or.inl ⟨by rfl, ?_⟩) hHeld ?_
  rotate_left
  · intro w hSw
    obtain ⟨k0, k1, k2⟩ := HL.out w hSw
    go_simp
    try with_reducible rfl
  try simp only [Act.put, List.setIfInBounds_toArray, List.set_cons_zero, List.set_cons_succ]
  refine wpAnyH_take (i := 7) (oi := ⟨some 34, _, _, _, _, _⟩) (v := ?_) rfl (by kernel_rfl) (by kernel_rfl) (by kernel_rfl) (fun _ _ _ h => h) (Or.inl ⟨by rfl, ?_⟩) hHeld ?_
  rotate_left
  · intro w hSw
    go_simp
    try with_reducible rfl
  try simp only [Act.put, List.setIfInBounds_toArray, List.set_cons_zero, List.set_cons_succ]
  refine wpAnyH_take (i := 8) (oi := ⟨some 35, _, _, _, _, _⟩) (v := ?_) rfl (by kernel_rfl) (by kernel_rfl) (by kernel_rfl) (fun _ _ _ h => h) (Or.inl ⟨by rfl, ?_⟩) hHeld ?_
  rotate_left
  · intro w hSw
    go_simp
    try with_reducible rfl
  try simp only [Act.put, List.setIfInBounds_toArray, List.set_cons_zero, List.set_cons_succ]
  refine wpAnyH_take (i := 9) (oi := ⟨some 36, _, _, _, _, _⟩) (v := ?_) rfl (by kernel_rfl) (by kernel_rfl) (by kernel_rfl) (fun _ _ _ h => h) (Or.inl ⟨by rfl, ?_⟩) hHeld ?_
  rotate_left
  · intro w hSw
    go_simp
    try with_reducible rfl
  try simp only [Act.put, List.setIfInBounds_toArray, List.set_cons_zero, List.set_cons_succ]
  refine wpAnyH_take (i := 10) (oi := ⟨some 37, _, _, _, _, _⟩) (v := ?_) rfl (by kernel_rfl) (by kernel_rfl) (by kernel_rfl) (fun _ _ _ h => h) (Or.inl ⟨by rfl, ?_⟩) hHeld ?_
  rotate_left
  · intro w hSw
    obtain ⟨k0, k1, k2⟩ := HL.out w hSw
    go_simp
    try with_reducible rfl
  try simp only [Act.put, List.setIfInBounds_toArray, List.set_cons_zero, List.set_cons_succ]
  refine wpAnyH_take (i := 11) (oi := ⟨some 38, _, _, _, _, _⟩) (v := ?_) rfl (by kernel_rfl) (by kernel_rfl) (by kernel_rfl) (fun _ _ _ h => h) (Or.inl ⟨by rfl, ?_⟩) hHeld ?_
  rotate_left
  · intro w hSw
    go_simp
    try with_reducible rfl
  try simp only [Act.put, List.setIfInBounds_toArray, List.set_cons_zero, List.set_cons_succ]
  refine wpAnyH_take (i := 12) (oi := ⟨some 39, _, _, _, _, _⟩) (v := ?_) rfl (by kernel_rfl) (by kernel_rfl) (by kernel_rfl) (fun _ _ _ h => h) (Or.inl ⟨by rfl, ?_⟩) hHeld ?_
  rotate_left
  · intro w hSw
    go_simp
    try with_reducible rfl
  try simp only [Act.put, List.setIfInBounds_toArray, List.set_cons_zero, List.set_cons_succ]
  refine wpAnyH_take (i := 13) (oi := ⟨some 26, _, _, _, _, _⟩) (v := ?_) rfl (by kernel_rfl) (by kernel_rfl) (by kernel_rfl) (fun _ _ _ h => h) (Or.inl ⟨by rfl, ?_⟩) hHeld ?_
  rotate_left
  · intro w hSw
    go_simp
    try with_reducible rfl
  try simp only [Act.put, List.setIfInBounds_toArray, List.set_cons_zero, List.set_cons_succ]
  refine wpAnyH_done (by kernel_rfl) ?_ _
  have hB4 := Lib.hid (B3.out.trans (hHeld.mono B3.out.size))
  clear hHeld HL
  go_wp2
  go_ret
  exact ⟨rfl, hB4.out⟩
end Go.Proofs.YtpanmfdbdgecaaaGreat.C

namespace Go.Proofs.YtpanmfdbdgecaaaGreat.C
open Go.RowKit
set_option linter.unusedVariables false
section
variable {P : Program} {ops : Array Oper} {rest : List Oper} {a : Act} {w : World} {Q : Exit → Act → World → Prop} {ty : TypeId} {pos : String} {after : Array Edge}
theorem arm_eql (d x y : Nat) (t : TypeId) (xs ys : Array Value) {ty' : TypeId} (hfx : Flat P t xs) (hfy : Flat P t ys) (hg : P.eqGuardType P.depth t = false) (hx : a.tmps.getD x undef = .agg xs) (hy : a.tmps.getD y undef = .agg ys)
    (h : wpList P ops Q rest (a.put (some d) (.bool (eqA xs ys))) w) :
    wpList P ops Q (⟨some d, .binOp .eql t (.tmp x) (.tmp y) ty', ty, pos, after, none⟩ :: rest) a w :=
  arm_eqlg d x y t xs ys hfx hfy hg hx hy (by simp [Region.wanted]) h
end
def SltOk (x : Slt) : Prop := Flat Tryz.prog 65 x.p ∧ x.p.size = 8 ∧ x.p.all (·.oneCell') = true
theorem sltC_len {x : Slt} (h : SltOk x) : (sltC x).length = 10 := by simp [sltC, h.2.1]
theorem sltC_all {x : Slt} (h : SltOk x) : (sltC x).toArray.all (·.oneCell') = true := by
  simp [sltC, Value.oneCell']
  intro i hi
  exact Array.all_eq_true.1 h.2.2 i hi
theorem slt_size : (Tryz.prog.info? 195).map (·.size) = some 10 := by kernel_rfl
theorem sltC_pf {x : Slt} (h : SltOk x) : (sltC x).toArray.extract 0 (0 + 8) = x.p := by
  have hps := h.2.1
  simp [sltC]
  rw [List.take_append_of_le_length (by simp [hps]), List.take_of_length_le (by simp [hps]), Array.toArray_toList]
set_option maxRecDepth 100000 in
theorem sketch_cmp (x : Slt) (p : Array Value) (pxb : Nat) (w : World) (hx : SltOk x) (hf : Flat Tryz.prog 65 p) (hp : p.size = 8) (hb : w.heap[pxb]? = some (.cells p 65 (0, 0))) :
    Calls Tryz.prog 165 #[.agg (sltC x).toArray, .pointer (some ⟨pxb, 0, none⟩)] w fun e w' => e = .returned (.bool (eqA x.p p)) ∧ Below w.heap.size w w' := by
  have hs1 : (Tryz.prog.info? 65).map (·.size) = some x.p.size := by rw [hx.2.1]; exact pf_size
  have hs2 : (Tryz.prog.info? 65).map (·.size) = some p.size := by rw [hp]; exact pf_size
  have hxp := sltC_pf hx
  have HFX := Lib.hid hx.1
  have HF := Lib.hid hf
  have HP := Lib.hid hb
  have HXP := Lib.hid (of_extract hxp)
  have HS1 := Lib.hid hs1
  have HS2 := Lib.hid hs2
  clear hx hf hb hxp hs1 hs2
  generalize (sltC x).toArray = X at *
  generalize x.p = xp at *
  go_enter Tryz.func165, Tryz.ntmps165
  go_upto_region 1 with ((with_reducible refine arm_box 2 0 195 X ?_ ?_); rfl; intro w1 HB HX HS)
  have hl1 := box_load_mid (t := 65) HX.out HXP.out _ Tryz.underlying65 rfl HS1.out
  have hl2 := box_load (t := 65) (keep_block HB.out HP.out) _ Tryz.underlying65 rfl HS2.out
  go_wp2_with (first
    | ((with_reducible refine arm_load 5 4 65 _ _ hl1 ?_ ?_); rfl)
    | ((with_reducible refine arm_load 6 1 65 _ _ hl2 ?_ ?_); rfl)
    | ((with_reducible refine arm_eql 7 5 6 65 xp p HFX.out HF.out pf_eqg ?_ ?_ ?_); rfl; rfl))
  go_ret
  exact ⟨rfl, HB.out⟩
/-- The place of a prefix; below 0: there is none. -/
noncomputable def fndS (l : List Slt) (p : Array Value) : Nat → Nat → Int
  | 0, _ => -1
  | m + 1, k =>
    match l[k]? with
    | none => -1
    | some x => if eqA x.p p = true then (k : Int) else fndS l p m (k + 1)
section
variable {w : World} {pb b room : Nat} {l : List Slt} {total : Int}
theorem SkAt.cells (h : SkAt w pb b l room total) : w.cell? ⟨pb, 0, none⟩ = some (.slice (some ⟨b, 0, none⟩) l.length room) ∧ w.cell? ⟨pb, 1, none⟩ = some (.int .i64 total) ∧ (∀ j, w.frozen? ⟨pb, j, none⟩ = false) := by
  rw [cell_of_row _ _ _ _ _ _ h.ptr, cell_of_row _ _ _ _ _ _ h.ptr]
  exact ⟨rfl, rfl, fun j => frozen_of_row _ _ _ _ _ h.ptr⟩
theorem SkAt.load (h : SkAt w pb b l room total) (hok : ∀ x ∈ l, SltOk x) {k : Nat} {x : Slt} (hx : l[k]? = some x) : (Instr.loadAt 195 (.pointer (some ⟨b, k * 10, none⟩))).run Tryz.prog w = .ok (.agg (sltC x).toArray) w := by
  obtain ⟨C, hC, hs, hr⟩ := h.row
  have hl : ∀ c ∈ l.map sltC, c.length = 10 := fun c hc => by
    obtain ⟨y, hy, rfl⟩ := List.mem_map.1 hc
    exact sltC_len (hok y hy)
  have hox := hok x (List.mem_of_getElem? hx)
  refine box_load_mid (t := 195) hC (fun j v hv => hr _ _ ?_) _ Tryz.underlying195 rfl (by rw [List.size_toArray, sltC_len hox]; exact slt_size)
  rw [List.toList_toArray] at hv
  have hj := (List.getElem?_eq_some_iff.1 hv).1
  rw [sltC_len hox] at hj
  exact (flat_at _ hl k j (sltC x) (by simp [hx]) hj).trans hv
end
set_option maxRecDepth 100000 in
set_option maxHeartbeats 1000000 in
theorem index_func (pb b room : Nat) (l : List Slt) (total : Int) (p : Array Value) (pxb : Nat) (w : World) (h : SkAt w pb b l room total) (hok : ∀ x ∈ l, SltOk x) (hf : Flat Tryz.prog 65 p) (hp : p.size = 8) (hb : w.heap[pxb]? = some (.cells p 65 (0, 0))) (hl : l.length ≤ 65536) (rm : Nat) :
    Calls Tryz.prog 164 #[.slice (some ⟨b, 0, none⟩) l.length rm, .func (.func 165) #[] #[.pointer (some ⟨pxb, 0, none⟩)]] w fun e w' => e = .returned (.int .i64 (fndS l p l.length 0)) ∧ Below w.heap.size w w' := by
  obtain ⟨n, hn⟩ : ∃ n, l.length = n := ⟨_, rfl⟩
  have HN := Lib.hid hn
  rw [hn] at hl ⊢
  have HH := Lib.hid h
  have HOK := Lib.hid hok
  have HB := Lib.hid hb
  have HF := Lib.hid hf
  clear hn h hok hb hf
  go_enter Tryz.func164, Tryz.ntmps164
  go_wp2_with fail
  go_loopw [8] (fun t wr => ∃ k : Nat, k ≤ n ∧ t = .int .i64 (k : Nat) ∧ fndS l p (n - k) k = fndS l p n 0 ∧ Below w.heap.size w wr) (fun t _ => n - (intOf t).toNat)
  case atStart => exact ⟨0, by omega, rfl, rfl, Below.refl _ _⟩
  case round =>
    obtain ⟨k, hk, rfl, hfn, hB⟩ := hrel
    have HFN := Lib.hid hfn
    have HBB := Lib.hid hB
    clear hfn hB
    by_cases hkn : k = n
    · subst hkn
      have e1 : fndS l p (k - k) k = -1 := by rw [Nat.sub_self]; rfl
      have HE1 := Lib.hid e1
      clear e1
      go_wp2
      go_ret
      exact ⟨by rw [← HFN.out, HE1.out]; rfl, HBB.out⟩
    · have hlt : (k : Int) < (n : Int) := by omega
      obtain ⟨x, hx⟩ : ∃ x, l[k]? = some x := ⟨_, List.getElem?_eq_getElem (by rw [HN.out]; omega)⟩
      have hld := (HH.out.below HBB.out).load HOK.out hx
      have CC := Lib.hid (sketch_cmp x p pxb wr (HOK.out x (List.mem_of_getElem? hx)) HF.out hp (keep_block HBB.out HB.out))
      have hfs : fndS l p (n - k) k = if eqA x.p p = true then (k : Int) else fndS l p (n - (k + 1)) (k + 1) := by
        obtain ⟨m, hm⟩ : ∃ m, n - k = m + 1 := ⟨n - k - 1, by omega⟩
        have hm2 : n - (k + 1) = m := by omega
        rw [hm, hm2]
        show (match l[k]? with | none => _ | some x => _) = _
        rw [hx]
      have HFS := Lib.hid hfs
      clear hfs hx
      generalize (sltC x).toArray = X at *
      obtain ⟨q, hq⟩ : ∃ q, eqA x.p p = q := ⟨_, rfl⟩
      rw [hq] at CC HFS
      clear hq
      have hs := HBB.out.size
      have hkw : IntKind.i64.wrap ((k : Int) + 1) = ((k + 1 : Nat) : Int) := by rw [IntWalk.i64_in _ (by omega)]; omega
      go_wp2_with ((with_reducible refine arm_load 15 14 195 _ _ hld ?_ ?_); rfl)
      refine CC.out.mono ?_
      rintro e w2 ⟨rfl, hb2⟩
      have HB3 := Lib.hid (HBB.out.trans (hb2.mono hs))
      clear hb2 hld CC
      cases q
      · have e1 := HFS.out
        rw [if_neg (by simp)] at e1
        have HE1 := Lib.hid e1
        clear e1
        go_wp2
        go_roundw
        case rel => exact ⟨k + 1, by omega, by go_num, by rw [← HE1.out]; exact HFN.out, HB3.out⟩
        case measure => simp [intOf]; omega
      · have e1 := HFS.out
        rw [if_pos rfl] at e1
        have HE1 := Lib.hid e1
        clear e1
        go_wp2
        go_ret
        exact ⟨by rw [← HFN.out, HE1.out]; rfl, HB3.out⟩
set_option maxRecDepth 100000 in
theorem sketch_find (pb b room : Nat) (l : List Slt) (total : Int) (p : Array Value) (w : World) (h : SkAt w pb b l room total) (hok : ∀ x ∈ l, SltOk x) (hf : Flat Tryz.prog 65 p) (hp : p.size = 8) (hl : l.length ≤ 65536) :
    Calls Tryz.prog 126 #[.pointer (some ⟨pb, 0, none⟩), .agg p] w fun e w' => e = .returned (.int .i64 (fndS l p l.length 0)) ∧ Below w.heap.size w w' := by
  have HH := Lib.hid h
  have HC : Hid (∀ w1, Below w.heap.size w w1 → w1.heap[w.heap.size]? = some (.cells p 65 (0, 0)) → Calls Tryz.prog 164 #[.slice (some ⟨b, 0, none⟩) l.length room, .func (.func 165) #[] #[.pointer (some ⟨w.heap.size, 0, none⟩)]] w1 fun e w' => e = .returned (.int .i64 (fndS l p l.length 0)) ∧ Below w1.heap.size w1 w') := Lib.hid fun w1 q hb => index_func pb b room l total p w.heap.size w1 (h.below q) hok hf hp hb hl room
  clear h hok hf
  generalize fndS l p l.length 0 = r at *
  go_enter Tryz.func126, Tryz.ntmps126
  go_upto_region 1 with ((with_reducible refine arm_box 3 1 65 p ?_ ?_); rfl; intro w1 HB HX HS)
  have k0 := (HH.out.below HB.out).cells.1
  have CI := Lib.hid (HC.out w1 HB.out HX.out)
  generalize l.length = n at *
  go_wp2_with fail
  refine CI.out.mono ?_
  rintro e w2 ⟨rfl, hb⟩
  have HB2 := Lib.hid (HB.out.trans (hb.mono HB.out.size))
  clear hb CI k0
  go_wp2
  go_ret
  exact ⟨rfl, HB2.out⟩
end Go.Proofs.YtpanmfdbdgecaaaGreat.C

namespace Go.Proofs.YtpanmfdbdgecaaaGreat.C
open Go.RowKit
set_option linter.unusedVariables false
section
variable {w : World} {pb b room : Nat} {l : List Slt} {total : Int}
theorem SkAt.ne (h : SkAt w pb b l room total) : pb ≠ b := by
  obtain ⟨C, hC, _⟩ := h.row
  exact ne_ty h.ptr hC (by decide)
theorem SkAt.drew (h : SkAt w pb b l room total) : SkAt w.drew pb b l room total := ⟨h.ptr, h.row, h.len, h.pre⟩
theorem SkAt.setTotal (h : SkAt w pb b l room total) (m : Int) : SkAt (w.setCell ⟨pb, 1, none⟩ (.int .i64 m)) pb b l room m := by
  obtain ⟨C, hC, h2, h3⟩ := h.row
  exact ⟨heap_setCell_same _ _ 1 _ _ (.int .i64 m) h.ptr, ⟨C, (heap_setCell_other _ _ _ _ (fun e => h.ne e.symm)).trans hC, h2, h3⟩, h.len, h.pre⟩
theorem sltC_len' {x : Slt} (h : x.p.size = 8) : (sltC x).length = 10 := by simp [sltC, h]
theorem SkAt.lens (h : SkAt w pb b l room total) : ∀ c ∈ l.map sltC, c.length = 10 := fun c hc => by
  obtain ⟨y, hy, rfl⟩ := List.mem_map.1 hc
  exact sltC_len' (h.pre y hy).1
/-- One more slot, in the room that is there. -/
theorem SkAt.push (h : SkAt w pb b l room total) (hlt : l.length < room) (y : Slt) (hy : y.p.size = 8 ∧ y.p.all (·.oneCell') = true) : SkAt ((w.setCells b (l.length * 10) (sltC y)).setCell ⟨pb, 0, none⟩ (.slice (some ⟨b, 0, none⟩) (l.length + 1) room)) pb b (l ++ [y]) room total := by
  obtain ⟨C, hC, h2, h3⟩ := h.row
  have hyl := sltC_len' hy.1
  have hfl : (l.map sltC).flatten.length = l.length * 10 := by rw [flat_length 10 _ h.lens, List.length_map]
  have hCl : C.toList.length = room * 10 := by simpa using h2
  have hb := block_setCells 195 (sltC y) (l.length * 10) w b C hC (by rw [hyl, h2]; omega)
  refine ⟨?_, ⟨_, (heap_setCell_other _ _ _ _ (fun e => h.ne e.symm)).trans hb, ?_, fun j v hv => ?_⟩, by rw [List.length_append]; exact hlt, fun x hx => ?_⟩
  · have := heap_setCell_same _ _ 0 _ _ (.slice (some ⟨b, 0, none⟩) (l.length + 1) room) ((heap_setCells_other (sltC y) (l.length * 10) w b pb h.ne).trans h.ptr)
    rw [List.length_append]
    exact this
  · rw [List.size_toArray, splice_length (by rw [hyl, hCl]; omega), hCl]
  · rw [List.getElem?_toArray, splice_at (by rw [hyl, hCl]; omega)]
    rw [List.map_append, List.flatten_append] at hv
    by_cases hj : j < l.length * 10
    · rw [if_pos hj, Array.getElem?_toList]
      rw [List.getElem?_append_left (by rw [hfl]; exact hj)] at hv
      exact h3 j v hv
    · rw [if_neg hj]
      rw [List.getElem?_append_right (by rw [hfl]; omega), hfl] at hv
      have hv' : (sltC y)[j - l.length * 10]? = some v := by simpa using hv
      have hjl := (List.getElem?_eq_some_iff.1 hv').1
      rw [if_pos (by omega)]
      exact hv'
  · rcases List.mem_append.1 hx with hx | hx
    · exact h.pre x hx
    · rw [List.mem_singleton.1 hx]
      exact hy
/-- A slot's count is written. -/
theorem SkAt.setCount (h : SkAt w pb b l room total) {i : Nat} {x : Slt} (hx : l[i]? = some x) (m : Int) : SkAt (w.setCell ⟨b, i * 10 + 8, none⟩ (.int .i64 m)) pb b (l.set i ⟨x.p, m, x.err⟩) room total := by
  obtain ⟨C, hC, h2, h3⟩ := h.row
  have hxl := (h.pre x (List.mem_of_getElem? hx))
  have hi := (List.getElem?_eq_some_iff.1 hx).1
  have k := heap_setCell_same _ _ (i * 10 + 8) _ _ (.int .i64 m) hC
  refine ⟨?_, ⟨_, k, by rw [Array.size_setIfInBounds]; exact h2, fun j v hv => ?_⟩, by rw [List.length_set]; exact h.len, fun y hy => ?_⟩
  · rw [heap_setCell_other _ _ _ _ h.ne, List.length_set]
    exact h.ptr
  · have e : (l.set i ⟨x.p, m, x.err⟩).map sltC = (l.map sltC).set i (sltC ⟨x.p, m, x.err⟩) := by rw [List.map_set]
    have hnl : (sltC (⟨x.p, m, x.err⟩ : Slt)).length = 10 := sltC_len' hxl.1
    have hfl : (l.map sltC).flatten.length = l.length * 10 := by rw [flat_length 10 _ h.lens, List.length_map]
    rw [e, flat_set _ h.lens i _ (by simpa using hi) hnl, splice_at (by rw [hnl, hfl]; omega), hnl] at hv
    have hold := h.lens
    by_cases hj : j = i * 10 + 8
    · subst hj
      rw [Array.getElem?_setIfInBounds_self_of_lt (by rw [h2]; have := h.len; omega)]
      rw [if_neg (by omega), if_pos (by omega)] at hv
      have : (sltC (⟨x.p, m, x.err⟩ : Slt))[i * 10 + 8 - i * 10]? = some (.int .i64 m) := by
        rw [show i * 10 + 8 - i * 10 = 8 by omega]
        simp [sltC, hxl.1]
      rw [this] at hv
      exact hv
    · rw [Array.getElem?_setIfInBounds_ne (by omega)]
      refine h3 j v ?_
      by_cases h1 : j < i * 10
      · rw [if_pos h1] at hv
        exact hv
      · rw [if_neg h1] at hv
        by_cases h4 : j < i * 10 + 10
        · rw [if_pos h4] at hv
          have hf := flat_at _ h.lens i (j - i * 10) (sltC x) (by simp [hx]) (by omega)
          rw [show i * 10 + (j - i * 10) = j by omega] at hf
          rw [hf, ← hv]
          have hne : j - i * 10 ≠ 8 := by omega
          unfold sltC
          by_cases h5 : j - i * 10 < 8
          · rw [List.getElem?_append_left (by simp [hxl.1]; exact h5), List.getElem?_append_left (by simp [hxl.1]; exact h5)]
          · have h9 : j - i * 10 = 9 := by omega
            rw [h9]
            simp [hxl.1]
        · rw [if_neg h4] at hv
          exact hv
  · rcases List.mem_or_eq_of_mem_set hy with hy | rfl
    · exact h.pre y hy
    · exact hxl
theorem SkAt.count (h : SkAt w pb b l room total) {i : Nat} {x : Slt} (hx : l[i]? = some x) : w.cell? ⟨b, i * 10 + 8, none⟩ = some (.int .i64 x.count) ∧ (∀ j, w.frozen? ⟨b, j, none⟩ = false) := by
  obtain ⟨C, hC, h2, h3⟩ := h.row
  have hxl := (h.pre x (List.mem_of_getElem? hx))
  refine ⟨cells_of_row hC _ _ (h3 _ _ ?_), fun j => frozen_of_row _ _ _ _ _ hC⟩
  have := flat_at _ h.lens i 8 (sltC x) (by simp [hx]) (by omega)
  rw [this]
  simp [sltC, hxl.1]
theorem SkAt.reset (h : SkAt w pb b l room total) : SkAt ((w.setCell ⟨pb, 0, none⟩ (.slice (some ⟨b, 0, none⟩) 0 room)).setCell ⟨pb, 1, none⟩ (.int .i64 0)) pb b [] room 0 := by
  obtain ⟨C, hC, h2, h3⟩ := h.row
  exact ⟨heap_setCell_same _ _ 1 _ _ (.int .i64 0) (heap_setCell_same _ _ 0 _ _ (.slice (some ⟨b, 0, none⟩) 0 room) h.ptr), ⟨C, (heap_setCell_other _ _ _ _ (fun e => h.ne e.symm)).trans ((heap_setCell_other _ _ _ _ (fun e => h.ne e.symm)).trans hC), h2, fun j v hv => by simp at hv⟩, Nat.zero_le _, fun x hx => by cases hx⟩
theorem sketch_reset (h : SkAt w pb b l room total) : Calls Tryz.prog 66 #[.pointer (some ⟨pb, 0, none⟩)] w fun e w' => e = .returned (.tuple #[]) ∧ SkAt w' pb b [] room 0 ∧ Two pb b w w' := by
  obtain ⟨k0, k1, ff⟩ := h.cells
  have f0 := ff 0
  have f1 := ff 1
  have HR := Lib.hid h.reset
  have HT := Lib.hid (Two.setCell (g := pb) (h := b) (x := ⟨pb, 1, none⟩) (Two.setCell (g := pb) (h := b) (x := ⟨pb, 0, none⟩) (Two.refl pb b w) (.inl rfl) (.slice (some ⟨b, 0, none⟩) 0 room)) (.inl rfl) (.int .i64 0))
  have hr : ((0 : Nat) : Int) ≤ (room : Int) := by omega
  clear h ff
  go_enter Tryz.func66, Tryz.ntmps66
  go_wp2
  go_end0
  exact ⟨rfl, HR.out, HT.out⟩
end
end Go.Proofs.YtpanmfdbdgecaaaGreat.C
