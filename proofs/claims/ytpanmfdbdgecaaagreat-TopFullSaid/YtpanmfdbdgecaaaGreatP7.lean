/- Prefixes are sorted: up to eight of them, in their row. · The box's table: all prefixes of one that has up to eight. · The box's table: Del of the last one. · The box: who is over goes. · The box: In, All. -/
import Derived.Test.YtpanmfdbdgecaaaGreatP6
import Derived.Lib.BytesEntry
import Derived.Laws.Externs
namespace Go.Proofs.YtpanmfdbdgecaaaGreat.C
open Go.RowKit
set_option linter.unusedVariables false
/-- Prefixes that lie in a row: the first ones of a block. -/
def PR (w : World) (g : Nat) (M : List (Array Value)) : Prop := ∃ C : Array Value, w.heap[g]? = some (.cells C 65 (0, 0)) ∧ M.length * 8 ≤ C.size ∧ ∀ (i : Nat) (p : Array Value), M[i]? = some p → ∀ (j : Nat) (v : Value), p.toList[j]? = some v → C[i * 8 + j]? = some v
/-- A prefix whose bytes are bytes. -/
def PfB (p : Array Value) : Prop := Pre p false ∧ ∃ xs : List Int, xs.length = 8 ∧ bytesP p false = xs.map (Value.int .u8)
theorem pfx_b (a b c : Nat) : PfB (pfx a b c) := ⟨pfx_pre a b c, (List.range 8).map (fun i => ((pfF a b c i : Nat) : Int)), by simp, by rw [pfx_bytes]; simp [List.map_map]; rfl⟩
section
variable {w w' : World} {g : Nat} {M : List (Array Value)}
theorem PR.below (h : PR w g M) (hB : Below w.heap.size w w') : PR w' g M := by
  obtain ⟨C, h1, h2⟩ := h
  exact ⟨C, keep_block hB h1, h2⟩
theorem PR.set (h : PR w g M) (hs : ∀ p ∈ M, p.size = 8) {i : Nat} (hi : i < M.length) (p : Array Value) (hp : p.size = 8) : PR (w.setCells g (i * 8) p.toList) g (M.set i p) := by
  obtain ⟨C, h1, h2, h3⟩ := h
  have hb := block_setCells 65 p.toList (i * 8) w g _ h1 (by rw [Array.length_toList, hp]; omega)
  have hpl : p.toList.length = 8 := by rw [Array.length_toList, hp]
  have hsz : (splice C.toList (i * 8) p.toList).length = C.size := by
    simp only [splice, List.length_append, List.length_take, List.length_drop, Array.length_toList, hp]
    omega
  refine ⟨_, hb, by rw [List.length_set, List.size_toArray, hsz]; exact h2, fun k q hq j v hv => ?_⟩
  rw [List.getElem?_toArray]
  have hj : j < q.toList.length := (List.getElem?_eq_some_iff.1 hv).1
  rcases Nat.lt_trichotomy k i with hk | rfl | hk
  · rw [List.getElem?_set_ne (by omega)] at hq
    have hj8 : j < 8 := by rw [Array.length_toList, hs q (List.mem_of_getElem? hq)] at hj; exact hj
    rw [splice, List.append_assoc, List.getElem?_append_left (by rw [List.length_take, Array.length_toList]; omega), List.getElem?_take_of_lt (by omega)]
    simpa using h3 k q hq j v hv
  · rw [List.getElem?_set_self hi] at hq
    injection hq with hq
    subst hq
    have hj8 : j < 8 := by rw [hpl] at hj; exact hj
    have ht : (C.toList.take (k * 8)).length = k * 8 := by rw [List.length_take, Array.length_toList]; omega
    rw [splice, List.append_assoc, List.getElem?_append_right (by omega), ht, List.getElem?_append_left (by rw [hpl]; omega), Nat.add_sub_cancel_left]
    exact hv
  · rw [List.getElem?_set_ne (by omega)] at hq
    have hj8 : j < 8 := by rw [Array.length_toList, hs q (List.mem_of_getElem? hq)] at hj; exact hj
    have ht : (C.toList.take (i * 8)).length = i * 8 := by rw [List.length_take, Array.length_toList]; omega
    have hd : k * 8 + j - i * 8 - 8 + (i * 8 + 8) = k * 8 + j := by omega
    rw [splice, List.append_assoc, List.getElem?_append_right (by omega), ht, List.getElem?_append_right (by rw [hpl]; omega), hpl, List.getElem?_drop, Nat.add_comm, hd]
    simpa using h3 k q hq j v hv
theorem PR.load (h : PR w g M) {i : Nat} {p : Array Value} (hp : M[i]? = some p) (h8 : p.size = 8) : (Instr.loadAt 65 (.pointer (some ⟨g, i * 8, none⟩))).run Tryz.prog w = .ok (.agg p) w := by
  obtain ⟨C, h1, h2, h3⟩ := h
  have := run_loadAt_mid (P := Tryz.prog) w g (i * 8) 65 p.toList _ (fun j v hv => cells_of_row h1 _ _ (h3 i p hp j v hv)) Tryz.underlying65 rfl (by rw [pf_size, Array.length_toList, h8])
  simpa using this
theorem PR.store (h : PR w g M) {i : Nat} (hi : i < M.length) {p : Array Value} (h8 : p.size = 8) (ha : p.all (·.oneCell') = true) : (Instr.storeAt 65 (.pointer (some ⟨g, i * 8, none⟩)) (.agg p)).run Tryz.prog w = .ok () (w.setCells g (i * 8) p.toList) := by
  obtain ⟨C, h1, h2, h3⟩ := h
  exact box_store_mid h1 (by rw [h8]; exact pf_size) ha (by rw [h8]; omega)
theorem PR.lt (h : PR w g M) : g < w.heap.size := by
  obtain ⟨C, h1, _⟩ := h
  exact (Array.getElem?_eq_some_iff.1 h1).1
end
theorem calls_bytes {w : World} {base : Nat} {u : Value} {n : Nat} {xs : List Int} (h : w.ownsRow base 5 1 u n (xs.map (Value.int .u8))) : ∃ b : ByteArray, (Extern.Bytes.bytesOf u).run Tryz.prog w = .ok b w := by
  have hl : xs.length = n := by simpa using h.1
  rcases h.2 with ⟨rfl, hn⟩ | ⟨g, cap, cur, rfl, _, hh, _, _, _, ht⟩
  · exact ⟨_, rfl⟩
  · have hc : ∀ j x, xs[j]? = some x → w.cell? ((⟨g, 0, none⟩ : Addr).add j) = some (.int .u8 x) := fun j x hx => by
      have hj : j < xs.length := (List.getElem?_eq_some_iff.1 hx).1
      have h1 : (cur.toList.take (n * 1))[j]? = some (.int .u8 x) := by rw [ht, List.getElem?_map, hx]; rfl
      rw [List.getElem?_take_of_lt (by omega)] at h1
      rw [OW.addr_off, Nat.zero_add]
      exact cells_of_row hh j _ (by simpa using h1)
    have := Lib.run_loadBytesX (P := Tryz.prog) w xs ⟨g, 0, none⟩ .empty hc
    rw [hl] at this
    exact ⟨_, this⟩
set_option maxRecDepth 100000 in
/-- Two bytes' rows are compared: some number comes out. -/
theorem bytes_cmp (base : Nat) (u v : Value) (n m : Nat) (xs ys : List Int) (w : World) (hu : w.ownsRow base 5 1 u n (xs.map (Value.int .u8))) (hv : w.ownsRow base 5 1 v m (ys.map (Value.int .u8))) :
    Calls Tryz.prog 162 #[u, v] w fun e w' => (∃ c, e = .returned (.int .i64 c)) ∧ w' = w := by
  obtain ⟨b1, hb1⟩ := calls_bytes hu
  obtain ⟨b2, hb2⟩ := calls_bytes hv
  have hcmp : ∀ w2 : World, w2 = w → ∃ c, (Extern.BytealgCompare.compare #[u, v]).run Tryz.prog w2 = .ok (.int .i64 c) w2 := fun w2 h2 => by
    subst h2
    refine ⟨Extern.BytealgCompare.cmp b1 b2, ?_⟩
    change Sem.run Tryz.prog (do pure (goInt (Extern.BytealgCompare.cmp (← Extern.Bytes.bytesOf u) (← Extern.Bytes.bytesOf v)))) w2 = _
    simp only [Sem.run_bind, hb1, hb2, Sem.run_pure, Result.andThen]
    rfl
  clear hb1 hb2 hu hv
  obtain ⟨c, hc⟩ := hcmp w rfl
  clear hcmp
  go_enter Tryz.func162, Tryz.ntmps162
  go_wp2
  rw [run_callFunc_extern Tryz.func181 (by kernel_rfl) (by kernel_rfl) (by kernel_rfl) (e := Extern.BytealgCompare.compare) (by kernel_rfl), hc]
  simp only [Result.andThen]
  rw [Oper.upon_value]
  go_wp2
  go_ret
  exact ⟨⟨_, rfl⟩, rfl⟩
set_option maxRecDepth 100000 in
theorem prefix_cmp (p q : Array Value) (w : World) (hp : PfB p) (hq : PfB q) :
    Calls Tryz.prog 161 #[.agg p, .agg q] w fun e w' => (∃ c, e = .returned (.int .i64 c)) ∧ Below w.heap.size w w' := by
  obtain ⟨hp1, xs, hxs, hxe⟩ := hp
  obtain ⟨hq1, ys, hys, hye⟩ := hq
  have CP := Lib.hid (fun w => bytes_of p false w hp1)
  have CQ := Lib.hid (fun w => bytes_of q false w hq1)
  rw [hxe] at CP
  rw [hye] at CQ
  have CC := Lib.hid bytes_cmp
  have HPS := Lib.hid (show (Tryz.prog.info? 65).map (·.size) = some p.size by rw [hp1.size]; exact pf_size)
  have HQS := Lib.hid (show (Tryz.prog.info? 65).map (·.size) = some q.size by rw [hq1.size]; exact pf_size)
  clear hxe hye hxs hys hp1 hq1
  go_enter Tryz.func161, Tryz.ntmps161
  go_upto_region 1 with (first
    | ((with_reducible refine arm_box 2 0 65 p ?_ ?_); rfl; intro w1 HB1 HX1 HS1)
    | ((with_reducible refine arm_box 3 1 65 q ?_ ?_); rfl; intro w2 HB2 HX2 HS2))
  have hs1 := HS1.out
  have HLD : Hid (∀ w', Below w2.heap.size w2 w' → (Instr.loadAt 65 (.pointer (some ⟨w.heap.size, 0, none⟩))).run Tryz.prog w' = .ok (.agg p) w' ∧ (Instr.loadAt 65 (.pointer (some ⟨w1.heap.size, 0, none⟩))).run Tryz.prog w' = .ok (.agg q) w') := Lib.hid fun w' h =>
    ⟨box_load (t := 65) (keep_block h (keep_block HB2.out HX1.out)) _ Tryz.underlying65 rfl HPS.out, box_load (t := 65) (keep_block h HX2.out) _ Tryz.underlying65 rfl HQS.out⟩
  go_wp2_with fail
  refine wp_region_held_drew (S := Below w2.heap.size w2) (by kernel_rfl) (Below.refl _ _).drew (fun hHeld => ?_)
  refine wpAnyH_take (i := 0) (oi := ⟨some 5, _, _, _, _, _⟩) (v := .agg p) rfl (by kernel_rfl) (by kernel_rfl) (by kernel_rfl) (fun _ _ _ h => h) (Or.inl ⟨by rfl, fun w hSw => exec_load rfl (HLD.out w hSw).1⟩) hHeld ?_
  try simp only [Act.put, List.setIfInBounds_toArray, List.set_cons_zero, List.set_cons_succ]
  refine wpAnyH_take (i := 2) (oi := ⟨some 7, _, _, _, _, _⟩) (v := .agg q) rfl (by kernel_rfl) (by kernel_rfl) (by kernel_rfl) (fun _ _ _ h => h) (Or.inl ⟨by rfl, fun w hSw => exec_load rfl (HLD.out w hSw).2⟩) hHeld ?_
  try simp only [Act.put, List.setIfInBounds_toArray, List.set_cons_zero, List.set_cons_succ]
  refine wpAnyH_ready (rs := [1]) (by kernel_rfl) (by simp) ?_
  refine AllReadyH.cons rfl (fun K hK => ?_) AllReadyH.nil
  go_simp
  go_wp2_with (go_at_call 163; go_must (refine (CP.out _).mono ?_; rintro e w1 ⟨u, rfl, hu, hB⟩))
  refine hK.out _ _ (hHeld.trans (hB.mono hHeld.size)) (fun hHeld => ?_)
  clear hK K
  have HU := Lib.hid (OW.mono hu (Nat.zero_le _))
  clear hu hB
  refine wpAnyH_ready (rs := [3]) (by kernel_rfl) (by simp) ?_
  refine AllReadyH.cons rfl (fun K hK => ?_) AllReadyH.nil
  go_simp
  go_wp2_with (go_at_call 163; go_must (refine (CQ.out _).mono ?_; rintro e w3 ⟨v, rfl, hv, hB⟩))
  refine hK.out _ _ (hHeld.trans (hB.mono hHeld.size)) (fun hHeld => ?_)
  clear hK K
  have hu2 := OW.below HU.out hB
  have hv2 := OW.mono hv (Nat.zero_le _)
  clear hv hB
  refine wpAnyH_ready (rs := [4]) (by kernel_rfl) (by simp) ?_
  refine AllReadyH.cons rfl (fun K hK => ?_) AllReadyH.nil
  go_simp
  go_wp2_with (go_at_call 162; go_must (refine (CC.out 0 _ _ _ _ _ _ _ hu2 hv2).mono ?_; rintro e w4 ⟨⟨c, rfl⟩, rfl⟩))
  refine hK.out _ _ (hHeld) (fun hHeld => ?_)
  clear hK K
  refine wpAnyH_take (i := 5) (oi := ⟨some 4, _, _, _, _, _⟩) (v := ?_) rfl (by kernel_rfl) (by kernel_rfl) (by kernel_rfl) (fun _ _ _ h => h) (Or.inl ⟨by rfl, ?_⟩) hHeld ?_
  rotate_left
  · intro w hSw
    go_simp
    try with_reducible rfl
  try simp only [Act.put, List.setIfInBounds_toArray, List.set_cons_zero, List.set_cons_succ]
  refine wpAnyH_done (by kernel_rfl) ?_ _
  have hB := HB1.out.trans ((HB2.out.trans (hHeld.mono HB2.out.size)).mono HB1.out.size)
  clear hu2 hv2 hHeld
  go_wp2
  go_ret
  exact ⟨⟨_, rfl⟩, hB⟩
section
variable {a : Act} {w : World} {ops : Array Oper} {K : Act → World → Prop} {Q : Exit → Act → World → Prop} {E : Prop} {ty : TypeId} {pos : String} {after : Array Edge}
theorem step_load (d s : Nat) (t : TypeId) (p v : Value) (hl : (Instr.loadAt t p).run Tryz.prog w = .ok v w) (hx : a.tmps.getD s undef = p) (h : K (a.put (some d) v) w) :
    if Region.wanted ⟨some d, .load t (.tmp s), ty, pos, after, none⟩ (yielded ops a.tmps) = true then Oper.wp Tryz.prog ⟨some d, .load t (.tmp s), ty, pos, after, none⟩ a w K Q else E := by
  rw [if_pos (by simp [Region.wanted])]
  have hx' : a.eval (.tmp s) = p := hx
  unfold Oper.wp execOp
  simp only [hx', Sem.run_bind, hl, Result.andThen_ok, Sem.run_pure]
  exact h
end
/-- All of a row's prefixes are bytes. -/
def AllB (M : List (Array Value)) : Prop := ∀ p ∈ M, PfB p
theorem AllB.set {M : List (Array Value)} (h : AllB M) (i : Nat) {p : Array Value} (hp : PfB p) : AllB (M.set i p) := fun q hq => by
  rcases List.mem_or_eq_of_mem_set hq with hq | rfl
  · exact h q hq
  · exact hp
set_option maxRecDepth 100000 in
set_option maxHeartbeats 4000000 in
theorem ins_many (g c : Nat) (L : List (Array Value)) (f : Value) (w : World) (hf : f = .func (.func 161) #[] #[]) (hL : PR w g L) (hb : AllB L) (h1 : 1 ≤ L.length) (hm : L.length ≤ 12) : Calls Tryz.prog 187 #[.slice (some ⟨g, 0, none⟩) L.length c, .int .i64 0, .int .i64 (L.length : Nat), f] w fun e w' => e = .returned (.tuple #[]) ∧ ∃ M, PR w' g M ∧ M.length = L.length ∧ (∀ p ∈ M, p ∈ L) ∧ Two g g w w' := by
  subst hf
  have HBL := Lib.hid hb
  obtain ⟨n, hn⟩ : ∃ n, L.length = n := ⟨_, rfl⟩
  rw [hn] at h1 hm ⊢
  have HN := Lib.hid hn
  have HL := Lib.hid hL
  clear hb hn hL
  go_enter Tryz.func187, Tryz.ntmps187
  go_wp2_with fail
  go_loopw [8] (fun s wr => ∃ (i : Nat) (M : List (Array Value)), s = .int .i64 (i : Nat) ∧ 1 ≤ i ∧ i ≤ n ∧ PR wr g M ∧ M.length = n ∧ (∀ p ∈ M, p ∈ L) ∧ Two g g w wr) (fun s _ => n - (intOf s).toNat)
  case atStart => exact ⟨1, L, rfl, by omega, h1, HL.out, HN.out, fun _ h => h, Two.refl _ _ _⟩
  case round =>
    obtain ⟨i, M, rfl, hi1, hin, hP, hMl, hML, hT⟩ := hrel
    have HP := Lib.hid hP
    have HMl := Lib.hid hMl
    have HML := Lib.hid hML
    have HT := Lib.hid hT
    clear hP hMl hML hT
    by_cases hie : i = n
    · subst hie
      go_wp2
      go_end0
      exact ⟨rfl, M, HP.out, HMl.out, HML.out, HT.out⟩
    · have hlt : (i : Int) < (n : Int) := by omega
      have hiw : IntKind.i64.wrap ((i : Int) + 1) = ((i + 1 : Nat) : Int) := by rw [IntWalk.i64_in _ (by omega)]; omega
      go_wp2_with fail
      go_loopw [9] (fun s wr => ∃ (j : Nat) (M : List (Array Value)), s = .int .i64 (j : Nat) ∧ j ≤ i ∧ PR wr g M ∧ M.length = n ∧ (∀ p ∈ M, p ∈ L) ∧ Two g g w wr) (fun s _ => (intOf s).toNat)
      case atStart => exact ⟨i, M, rfl, Nat.le_refl _, HP.out, HMl.out, HML.out, HT.out⟩
      case round =>
        clear HP HMl HML HT
        obtain ⟨j, M2, rfl, hji, hP, hMl, hML, hT⟩ := hrel
        have HP := Lib.hid hP
        have HMl := Lib.hid hMl
        have HML := Lib.hid hML
        have HT := Lib.hid hT
        clear hP hMl hML hT
        by_cases hj0 : j = 0
        · subst hj0
          have hd : decide ((0 : Int) < ((0 : Nat) : Int)) = false := rfl
          go_wp2_with fail
          refine wp_region_held_drew (S := Below wr.heap.size wr) (by kernel_rfl) (Below.refl _ _).drew (fun hHeld => ?_)
          refine wpAnyH_take (i := 0) (oi := ⟨some 18, _, _, _, _, _⟩) (v := ?_) rfl (by kernel_rfl) (by kernel_rfl) (by kernel_rfl) (fun _ _ _ h => h) (Or.inl ⟨by rfl, ?_⟩) hHeld ?_
          rotate_left
          · intro w hSw
            go_simp
            try with_reducible rfl
          try simp only [Act.put, List.setIfInBounds_toArray, List.set_cons_zero, List.set_cons_succ]
          refine wpAnyH_take (i := 1) (oi := ⟨some 19, _, _, _, _, _⟩) (v := ?_) rfl (by kernel_rfl) (by kernel_rfl) (by kernel_rfl) (fun _ _ _ h => h) (Or.inl ⟨by rfl, ?_⟩) hHeld ?_
          rotate_left
          · intro w hSw
            go_simp
            try with_reducible rfl
          try simp only [Act.put, List.setIfInBounds_toArray, List.set_cons_zero, List.set_cons_succ]
          refine wpAnyH_take (i := 2) (oi := ⟨some 20, _, _, _, _, _⟩) (v := ?_) rfl (by kernel_rfl) (by kernel_rfl) (by kernel_rfl) (fun _ _ _ h => h) (Or.inl ⟨by rfl, ?_⟩) hHeld ?_
          rotate_left
          · intro w hSw
            go_simp
            try with_reducible rfl
          try simp only [Act.put, List.setIfInBounds_toArray, List.set_cons_zero, List.set_cons_succ]
          refine wpAnyH_take (i := 3) (oi := ⟨some 21, _, _, _, _, _⟩) (v := ?_) rfl (by kernel_rfl) (by kernel_rfl) (by kernel_rfl) (fun _ _ _ h => h) (Or.inl ⟨by rfl, ?_⟩) hHeld ?_
          rotate_left
          · intro w hSw
            go_simp
            try with_reducible rfl
          try simp only [Act.put, List.setIfInBounds_toArray, List.set_cons_zero, List.set_cons_succ]
          refine wpAnyH_take (i := 4) (oi := ⟨some 22, _, _, _, _, _⟩) (v := undef) rfl (by kernel_rfl) (by kernel_rfl) (by kernel_rfl) (fun _ _ _ h => h) (Or.inr ⟨by rfl, rfl⟩) hHeld ?_
          try simp only [Act.put, List.setIfInBounds_toArray, List.set_cons_zero, List.set_cons_succ]
          refine wpAnyH_take (i := 5) (oi := ⟨some 23, _, _, _, _, _⟩) (v := undef) rfl (by kernel_rfl) (by kernel_rfl) (by kernel_rfl) (fun _ _ _ h => h) (Or.inr ⟨by rfl, rfl⟩) hHeld ?_
          try simp only [Act.put, List.setIfInBounds_toArray, List.set_cons_zero, List.set_cons_succ]
          refine wpAnyH_take (i := 6) (oi := ⟨some 24, _, _, _, _, _⟩) (v := undef) rfl (by kernel_rfl) (by kernel_rfl) (by kernel_rfl) (fun _ _ _ h => h) (Or.inr ⟨by rfl, rfl⟩) hHeld ?_
          try simp only [Act.put, List.setIfInBounds_toArray, List.set_cons_zero, List.set_cons_succ]
          refine wpAnyH_take (i := 7) (oi := ⟨some 25, _, _, _, _, _⟩) (v := undef) rfl (by kernel_rfl) (by kernel_rfl) (by kernel_rfl) (fun _ _ _ h => h) (Or.inr ⟨by rfl, rfl⟩) hHeld ?_
          try simp only [Act.put, List.setIfInBounds_toArray, List.set_cons_zero, List.set_cons_succ]
          refine wpAnyH_take (i := 8) (oi := ⟨some 26, _, _, _, _, _⟩) (v := undef) rfl (by kernel_rfl) (by kernel_rfl) (by kernel_rfl) (fun _ _ _ h => h) (Or.inr ⟨by rfl, rfl⟩) hHeld ?_
          try simp only [Act.put, List.setIfInBounds_toArray, List.set_cons_zero, List.set_cons_succ]
          refine wpAnyH_take (i := 9) (oi := ⟨some 27, _, _, _, _, _⟩) (v := undef) rfl (by kernel_rfl) (by kernel_rfl) (by kernel_rfl) (fun _ _ _ h => h) (Or.inr ⟨by rfl, rfl⟩) hHeld ?_
          try simp only [Act.put, List.setIfInBounds_toArray, List.set_cons_zero, List.set_cons_succ]
          refine wpAnyH_take (i := 10) (oi := ⟨some 28, _, _, _, _, _⟩) (v := undef) rfl (by kernel_rfl) (by kernel_rfl) (by kernel_rfl) (fun _ _ _ h => h) (Or.inr ⟨by rfl, rfl⟩) hHeld ?_
          try simp only [Act.put, List.setIfInBounds_toArray, List.set_cons_zero, List.set_cons_succ]
          refine wpAnyH_take (i := 11) (oi := ⟨some 29, _, _, _, _, _⟩) (v := undef) rfl (by kernel_rfl) (by kernel_rfl) (by kernel_rfl) (fun _ _ _ h => h) (Or.inr ⟨by rfl, rfl⟩) hHeld ?_
          try simp only [Act.put, List.setIfInBounds_toArray, List.set_cons_zero, List.set_cons_succ]
          refine wpAnyH_take (i := 12) (oi := ⟨some 30, _, _, _, _, _⟩) (v := undef) rfl (by kernel_rfl) (by kernel_rfl) (by kernel_rfl) (fun _ _ _ h => h) (Or.inr ⟨by rfl, rfl⟩) hHeld ?_
          try simp only [Act.put, List.setIfInBounds_toArray, List.set_cons_zero, List.set_cons_succ]
          refine wpAnyH_take (i := 13) (oi := ⟨some 31, _, _, _, _, _⟩) (v := undef) rfl (by kernel_rfl) (by kernel_rfl) (by kernel_rfl) (fun _ _ _ h => h) (Or.inr ⟨by rfl, rfl⟩) hHeld ?_
          try simp only [Act.put, List.setIfInBounds_toArray, List.set_cons_zero, List.set_cons_succ]
          refine wpAnyH_take (i := 14) (oi := ⟨some 32, _, _, _, _, _⟩) (v := undef) rfl (by kernel_rfl) (by kernel_rfl) (by kernel_rfl) (fun _ _ _ h => h) (Or.inr ⟨by rfl, rfl⟩) hHeld ?_
          try simp only [Act.put, List.setIfInBounds_toArray, List.set_cons_zero, List.set_cons_succ]
          refine wpAnyH_take (i := 15) (oi := ⟨some 33, _, _, _, _, _⟩) (v := undef) rfl (by kernel_rfl) (by kernel_rfl) (by kernel_rfl) (fun _ _ _ h => h) (Or.inr ⟨by rfl, rfl⟩) hHeld ?_
          try simp only [Act.put, List.setIfInBounds_toArray, List.set_cons_zero, List.set_cons_succ]
          refine wpAnyH_take (i := 16) (oi := ⟨some 34, _, _, _, _, _⟩) (v := ?_) rfl (by kernel_rfl) (by kernel_rfl) (by kernel_rfl) (fun _ _ _ h => h) (Or.inl ⟨by rfl, ?_⟩) hHeld ?_
          rotate_left
          · intro w hSw
            go_simp
            try with_reducible rfl
          try simp only [Act.put, List.setIfInBounds_toArray, List.set_cons_zero, List.set_cons_succ]
          refine wpAnyH_done (by kernel_rfl) ?_ _
          have hP2 := HP.out.below hHeld
          have hT2 := HT.out.trans (two_ofB (x := g) (y := g) hHeld)
          have HP2 := Lib.hid hP2
          have HT2 := Lib.hid hT2
          clear hP2 hT2 hHeld HP HT
          go_wp2
          go_roundw
          case rel => exact ⟨i + 1, M2, by go_num, by omega, by omega, HP2.out, HMl.out, HML.out, HT2.out⟩
          case measure => simp [intOf]; omega
        · obtain ⟨k, hk⟩ : ∃ k, j = k + 1 := ⟨j - 1, by omega⟩
          have hd : decide ((0 : Int) < (j : Int)) = true := decide_eq_true (by omega)
          obtain ⟨p, hp⟩ : ∃ p, M2[j]? = some p := ⟨_, List.getElem?_eq_getElem (by rw [HMl.out]; omega)⟩
          obtain ⟨q, hq⟩ : ∃ q, M2[k]? = some q := ⟨_, List.getElem?_eq_getElem (by rw [HMl.out]; omega)⟩
          have bp := HBL.out p (HML.out p (List.mem_of_getElem? hp))
          have bq := HBL.out q (HML.out q (List.mem_of_getElem? hq))
          have HPP := Lib.hid hp
          have HQQ := Lib.hid hq
          have HBP := Lib.hid bp
          have HBQ := Lib.hid bq
          clear hp hq bp bq
          have hkn : (k : Int) < (n : Int) := by omega
          have hjn : (j : Int) < (n : Int) := by omega
          have hjw : IntKind.i64.wrap ((j : Int) - 1) = (k : Int) := by rw [IntWalk.i64_in _ (by omega)]; omega
          have HK := Lib.hid hk
          have hk0 : (0 : Int) ≤ (k : Int) := by omega
          have hdn : 0 < j := by omega
          have hdi : (0 : Int) < (j : Int) := by omega
          clear hk hj0
          have HLD : Hid (∀ w', Below wr.heap.size wr w' → (Instr.loadAt 65 (.pointer (some ⟨g, j * 8, none⟩))).run Tryz.prog w' = .ok (.agg p) w' ∧ (Instr.loadAt 65 (.pointer (some ⟨g, k * 8, none⟩))).run Tryz.prog w' = .ok (.agg q) w') := Lib.hid fun w' h =>
            ⟨(HP.out.below h).load HPP.out HBP.out.1.size, (HP.out.below h).load HQQ.out HBQ.out.1.size⟩
          have CC := Lib.hid (fun w => prefix_cmp p q w HBP.out HBQ.out)
          go_wp2_with fail
          refine wp_region_held_drew (S := Below wr.heap.size wr) (by kernel_rfl) (Below.refl _ _).drew (fun hHeld => ?_)
          refine wpAnyH_take (i := 0) (oi := ⟨some 18, _, _, _, _, _⟩) (v := ?_) rfl (by kernel_rfl) (by kernel_rfl) (by kernel_rfl) (fun _ _ _ h => h) (Or.inl ⟨by rfl, ?_⟩) hHeld ?_
          rotate_left
          · intro w hSw
            go_simp
            try with_reducible rfl
          try simp only [Act.put, List.setIfInBounds_toArray, List.set_cons_zero, List.set_cons_succ]
          refine wpAnyH_take (i := 1) (oi := ⟨some 19, _, _, _, _, _⟩) (v := ?_) rfl (by kernel_rfl) (by kernel_rfl) (by kernel_rfl) (fun _ _ _ h => h) (Or.inl ⟨by rfl, ?_⟩) hHeld ?_
          rotate_left
          · intro w hSw
            go_simp
            try with_reducible rfl
          try simp only [Act.put, List.setIfInBounds_toArray, List.set_cons_zero, List.set_cons_succ]
          refine wpAnyH_take (i := 2) (oi := ⟨some 20, _, _, _, _, _⟩) (v := ?_) rfl (by kernel_rfl) (by kernel_rfl) (by kernel_rfl) (fun _ _ _ h => h) (Or.inl ⟨by rfl, ?_⟩) hHeld ?_
          rotate_left
          · intro w hSw
            go_simp
            try with_reducible rfl
          try simp only [Act.put, List.setIfInBounds_toArray, List.set_cons_zero, List.set_cons_succ]
          refine wpAnyH_take (i := 3) (oi := ⟨some 21, _, _, _, _, _⟩) (v := ?_) rfl (by kernel_rfl) (by kernel_rfl) (by kernel_rfl) (fun _ _ _ h => h) (Or.inl ⟨by rfl, ?_⟩) hHeld ?_
          rotate_left
          · intro w hSw
            go_simp
            try with_reducible rfl
          try simp only [Act.put, List.setIfInBounds_toArray, List.set_cons_zero, List.set_cons_succ]
          refine wpAnyH_take (i := 4) (oi := ⟨some 22, _, _, _, _, _⟩) (v := ?_) rfl (by kernel_rfl) (by kernel_rfl) (by kernel_rfl) (fun _ _ _ h => h) (Or.inl ⟨by rfl, ?_⟩) hHeld ?_
          rotate_left
          · intro w hSw
            go_simp
            try with_reducible rfl
          try simp only [Act.put, List.setIfInBounds_toArray, List.set_cons_zero, List.set_cons_succ]
          refine wpAnyH_take (i := 5) (oi := ⟨some 23, _, _, _, _, _⟩) (v := ?_) rfl (by kernel_rfl) (by kernel_rfl) (by kernel_rfl) (fun _ _ _ h => h) (Or.inl ⟨by rfl, ?_⟩) hHeld ?_
          rotate_left
          · intro w hSw
            go_simp
            try with_reducible rfl
          try simp only [Act.put, List.setIfInBounds_toArray, List.set_cons_zero, List.set_cons_succ]
          refine wpAnyH_take (i := 6) (oi := ⟨some 24, _, _, _, _, _⟩) (v := ?_) rfl (by kernel_rfl) (by kernel_rfl) (by kernel_rfl) (fun _ _ _ h => h) (Or.inl ⟨by rfl, ?_⟩) hHeld ?_
          rotate_left
          · intro w hSw
            go_simp
            try with_reducible rfl
          try simp only [Act.put, List.setIfInBounds_toArray, List.set_cons_zero, List.set_cons_succ]
          refine wpAnyH_take (i := 7) (oi := ⟨some 25, _, _, _, _, _⟩) (v := ?_) rfl (by kernel_rfl) (by kernel_rfl) (by kernel_rfl) (fun _ _ _ h => h) (Or.inl ⟨by rfl, ?_⟩) hHeld ?_
          rotate_left
          · intro w hSw
            go_simp
            try with_reducible rfl
          try simp only [Act.put, List.setIfInBounds_toArray, List.set_cons_zero, List.set_cons_succ]
          refine wpAnyH_take (i := 8) (oi := ⟨some 26, _, _, _, _, _⟩) (v := .agg p) rfl (by kernel_rfl) (by kernel_rfl) (by kernel_rfl) (fun _ _ _ h => h) (Or.inl ⟨by rfl, fun w hSw => exec_load rfl (HLD.out w hSw).1⟩) hHeld ?_
          try simp only [Act.put, List.setIfInBounds_toArray, List.set_cons_zero, List.set_cons_succ]
          refine wpAnyH_take (i := 9) (oi := ⟨some 27, _, _, _, _, _⟩) (v := ?_) rfl (by kernel_rfl) (by kernel_rfl) (by kernel_rfl) (fun _ _ _ h => h) (Or.inl ⟨by rfl, ?_⟩) hHeld ?_
          rotate_left
          · intro w hSw
            go_simp
            try with_reducible rfl
          try simp only [Act.put, List.setIfInBounds_toArray, List.set_cons_zero, List.set_cons_succ]
          refine wpAnyH_take (i := 10) (oi := ⟨some 28, _, _, _, _, _⟩) (v := ?_) rfl (by kernel_rfl) (by kernel_rfl) (by kernel_rfl) (fun _ _ _ h => h) (Or.inl ⟨by rfl, ?_⟩) hHeld ?_
          rotate_left
          · intro w hSw
            go_simp
            try with_reducible rfl
          try simp only [Act.put, List.setIfInBounds_toArray, List.set_cons_zero, List.set_cons_succ]
          refine wpAnyH_take (i := 11) (oi := ⟨some 29, _, _, _, _, _⟩) (v := ?_) rfl (by kernel_rfl) (by kernel_rfl) (by kernel_rfl) (fun _ _ _ h => h) (Or.inl ⟨by rfl, ?_⟩) hHeld ?_
          rotate_left
          · intro w hSw
            go_simp
            try with_reducible rfl
          try simp only [Act.put, List.setIfInBounds_toArray, List.set_cons_zero, List.set_cons_succ]
          refine wpAnyH_take (i := 12) (oi := ⟨some 30, _, _, _, _, _⟩) (v := ?_) rfl (by kernel_rfl) (by kernel_rfl) (by kernel_rfl) (fun _ _ _ h => h) (Or.inl ⟨by rfl, ?_⟩) hHeld ?_
          rotate_left
          · intro w hSw
            go_simp
            try with_reducible rfl
          try simp only [Act.put, List.setIfInBounds_toArray, List.set_cons_zero, List.set_cons_succ]
          refine wpAnyH_take (i := 13) (oi := ⟨some 31, _, _, _, _, _⟩) (v := .agg q) rfl (by kernel_rfl) (by kernel_rfl) (by kernel_rfl) (fun _ _ _ h => h) (Or.inl ⟨by rfl, fun w hSw => exec_load rfl (HLD.out w hSw).2⟩) hHeld ?_
          try simp only [Act.put, List.setIfInBounds_toArray, List.set_cons_zero, List.set_cons_succ]
          refine wpAnyH_ready (rs := [14]) (by kernel_rfl) (by simp) ?_
          refine AllReadyH.cons rfl (fun K hK => ?_) AllReadyH.nil
          go_simp
          go_wp2_with (go_at_call 161; go_must (refine (CC.out _).mono ?_; rintro e w14 ⟨⟨c2, rfl⟩, hB⟩))
          refine hK.out _ _ (hHeld.trans (hB.mono hHeld.size)) (fun hHeld => ?_)
          clear hK K
          refine wpAnyH_take (i := 15) (oi := ⟨some 33, _, _, _, _, _⟩) (v := ?_) rfl (by kernel_rfl) (by kernel_rfl) (by kernel_rfl) (fun _ _ _ h => h) (Or.inl ⟨by rfl, ?_⟩) hHeld ?_
          rotate_left
          · intro w hSw
            go_simp
            try with_reducible rfl
          try simp only [Act.put, List.setIfInBounds_toArray, List.set_cons_zero, List.set_cons_succ]
          refine wpAnyH_take (i := 16) (oi := ⟨some 34, _, _, _, _, _⟩) (v := ?_) rfl (by kernel_rfl) (by kernel_rfl) (by kernel_rfl) (fun _ _ _ h => h) (Or.inl ⟨by rfl, ?_⟩) hHeld ?_
          rotate_left
          · intro w hSw
            go_simp
            try with_reducible rfl
          try simp only [Act.put, List.setIfInBounds_toArray, List.set_cons_zero, List.set_cons_succ]
          refine wpAnyH_done (by kernel_rfl) ?_ _
          have hP2 := HP.out.below hHeld
          have hT2 := HT.out.trans (two_ofB (x := g) (y := g) hHeld)
          clear hHeld HP HT HLD CC
          generalize w14 = v0 at *
          by_cases hc2 : c2 < 0
          · go_wp2_with fail
            have hP3 : PR v0.drew g M2 := hP2
            have hT3 : Two g g _ v0.drew := hT2.drewN 1
            have e1 := hP3.load HPP.out HBP.out.1.size
            have e2 := hP3.load HQQ.out HBQ.out.1.size
            have hs2 : ∀ x ∈ M2, x.size = 8 := fun x hx => (HBL.out x (HML.out x hx)).1.size
            have hjl : j < M2.length := by rw [HMl.out]; omega
            have hkl : k < M2.length := by rw [HMl.out]; have := HK.out; omega
            have st1 := hP3.store hjl HBQ.out.1.size HBQ.out.1.one
            have hP4 := hP3.set hs2 hjl q HBQ.out.1.size
            have hs4 : ∀ x ∈ M2.set j q, x.size = 8 := fun x hx => by
              rcases List.mem_or_eq_of_mem_set hx with hx | rfl
              · exact hs2 x hx
              · exact HBQ.out.1.size
            have hkl4 : k < (M2.set j q).length := by rw [List.length_set]; exact hkl
            have st2 := hP4.store hkl4 HBP.out.1.size HBP.out.1.one
            have hP5 := hP4.set hs4 hkl4 p HBP.out.1.size
            have hT5 := Two.setCells (g := g) (h := g) (b := g) (.inl rfl) p.toList (k * 8) (Two.setCells (g := g) (h := g) (b := g) (.inl rfl) q.toList (j * 8) hT3)
            have hML5 : ∀ x ∈ (M2.set j q).set k p, x ∈ L := fun x hx => by
              rcases List.mem_or_eq_of_mem_set hx with hx | rfl
              · rcases List.mem_or_eq_of_mem_set hx with hx | rfl
                · exact HML.out x hx
                · exact HML.out _ (List.mem_of_getElem? HQQ.out)
              · exact HML.out _ (List.mem_of_getElem? HPP.out)
            have HP5 := Lib.hid hP5
            have HT5 := Lib.hid hT5
            have HML5 := Lib.hid hML5
            clear hP2 hT2 hP3 hT3 hs2 hs4 hP4 hP5 hT5 hML5 hkl4
            refine wp_region_held_drew (S := fun _ => True) (by kernel_rfl) trivial (fun hHeld => ?_)
            refine wpAnyH_take (i := 0) (oi := ⟨some 37, _, _, _, _, _⟩) (v := ?_) rfl (by kernel_rfl) (by kernel_rfl) (by kernel_rfl) (fun _ _ _ h => h) (Or.inl ⟨by rfl, ?_⟩) hHeld ?_
            rotate_left
            · intro w hSw
              go_simp
              try with_reducible rfl
            try simp only [Act.put, List.setIfInBounds_toArray, List.set_cons_zero, List.set_cons_succ]
            refine wpAnyH_take (i := 1) (oi := ⟨some 38, _, _, _, _, _⟩) (v := ?_) rfl (by kernel_rfl) (by kernel_rfl) (by kernel_rfl) (fun _ _ _ h => h) (Or.inl ⟨by rfl, ?_⟩) hHeld ?_
            rotate_left
            · intro w hSw
              go_simp
              try with_reducible rfl
            try simp only [Act.put, List.setIfInBounds_toArray, List.set_cons_zero, List.set_cons_succ]
            refine wpAnyH_take (i := 2) (oi := ⟨some 39, _, _, _, _, _⟩) (v := ?_) rfl (by kernel_rfl) (by kernel_rfl) (by kernel_rfl) (fun _ _ _ h => h) (Or.inl ⟨by rfl, ?_⟩) hHeld ?_
            rotate_left
            · intro w hSw
              go_simp
              try with_reducible rfl
            try simp only [Act.put, List.setIfInBounds_toArray, List.set_cons_zero, List.set_cons_succ]
            refine wpAnyH_take (i := 3) (oi := ⟨some 40, _, _, _, _, _⟩) (v := ?_) rfl (by kernel_rfl) (by kernel_rfl) (by kernel_rfl) (fun _ _ _ h => h) (Or.inl ⟨by rfl, ?_⟩) hHeld ?_
            rotate_left
            · intro w hSw
              go_simp
              try with_reducible rfl
            try simp only [Act.put, List.setIfInBounds_toArray, List.set_cons_zero, List.set_cons_succ]
            refine wpAnyH_take (i := 4) (oi := ⟨some 41, _, _, _, _, _⟩) (v := ?_) rfl (by kernel_rfl) (by kernel_rfl) (by kernel_rfl) (fun _ _ _ h => h) (Or.inl ⟨by rfl, ?_⟩) hHeld ?_
            rotate_left
            · intro w hSw
              go_simp
              try with_reducible rfl
            try simp only [Act.put, List.setIfInBounds_toArray, List.set_cons_zero, List.set_cons_succ]
            refine wpAnyH_take (i := 5) (oi := ⟨some 42, _, _, _, _, _⟩) (v := ?_) rfl (by kernel_rfl) (by kernel_rfl) (by kernel_rfl) (fun _ _ _ h => h) (Or.inl ⟨by rfl, ?_⟩) hHeld ?_
            rotate_left
            · intro w hSw
              go_simp
              try with_reducible rfl
            try simp only [Act.put, List.setIfInBounds_toArray, List.set_cons_zero, List.set_cons_succ]
            refine wpAnyH_take (i := 6) (oi := ⟨some 43, _, _, _, _, _⟩) (v := ?_) rfl (by kernel_rfl) (by kernel_rfl) (by kernel_rfl) (fun _ _ _ h => h) (Or.inl ⟨by rfl, ?_⟩) hHeld ?_
            rotate_left
            · intro w hSw
              go_simp
              try with_reducible rfl
            try simp only [Act.put, List.setIfInBounds_toArray, List.set_cons_zero, List.set_cons_succ]
            refine wpAnyH_take (i := 7) (oi := ⟨some 44, _, _, _, _, _⟩) (v := ?_) rfl (by kernel_rfl) (by kernel_rfl) (by kernel_rfl) (fun _ _ _ h => h) (Or.inl ⟨by rfl, ?_⟩) hHeld ?_
            rotate_left
            · intro w hSw
              go_simp
              try with_reducible rfl
            try simp only [Act.put, List.setIfInBounds_toArray, List.set_cons_zero, List.set_cons_succ]
            refine wpAnyH_take (i := 8) (oi := ⟨some 45, _, _, _, _, _⟩) (v := ?_) rfl (by kernel_rfl) (by kernel_rfl) (by kernel_rfl) (fun _ _ _ h => h) (Or.inl ⟨by rfl, ?_⟩) hHeld ?_
            rotate_left
            · intro w hSw
              go_simp
              try with_reducible rfl
            try simp only [Act.put, List.setIfInBounds_toArray, List.set_cons_zero, List.set_cons_succ]
            refine wpAnyH_take (i := 10) (oi := ⟨some 47, _, _, _, _, _⟩) (v := ?_) rfl (by kernel_rfl) (by kernel_rfl) (by kernel_rfl) (fun _ _ _ h => h) (Or.inl ⟨by rfl, ?_⟩) hHeld ?_
            rotate_left
            · intro w hSw
              go_simp
              try with_reducible rfl
            try simp only [Act.put, List.setIfInBounds_toArray, List.set_cons_zero, List.set_cons_succ]
            refine wpAnyH_take (i := 11) (oi := ⟨some 48, _, _, _, _, _⟩) (v := ?_) rfl (by kernel_rfl) (by kernel_rfl) (by kernel_rfl) (fun _ _ _ h => h) (Or.inl ⟨by rfl, ?_⟩) hHeld ?_
            rotate_left
            · intro w hSw
              go_simp
              try with_reducible rfl
            try simp only [Act.put, List.setIfInBounds_toArray, List.set_cons_zero, List.set_cons_succ]
            refine wpAnyH_take (i := 12) (oi := ⟨some 49, _, _, _, _, _⟩) (v := ?_) rfl (by kernel_rfl) (by kernel_rfl) (by kernel_rfl) (fun _ _ _ h => h) (Or.inl ⟨by rfl, ?_⟩) hHeld ?_
            rotate_left
            · intro w hSw
              go_simp
              try with_reducible rfl
            try simp only [Act.put, List.setIfInBounds_toArray, List.set_cons_zero, List.set_cons_succ]
            refine wpAnyH_ready (rs := [9, 13]) (by kernel_rfl) (by simp) ?_
            refine AllReadyH.cons rfl (fun K hK => ?ordA) (AllReadyH.cons rfl (fun K hK => ?ordB) AllReadyH.nil)
            case' ordA =>
              refine step_load 46 45 65 _ _ e2 rfl ?_
              refine hK.out _ _ (trivial) (fun hHeld => ?_)
              clear hK K
              refine wpAnyH_ready (rs := [13]) (by kernel_rfl) (by simp) ?_
              refine AllReadyH.cons rfl (fun K hK => ?_) AllReadyH.nil
              refine step_load 50 49 65 _ _ e1 rfl ?_
              refine hK.out _ _ (trivial) (fun hHeld => ?_)
              clear hK K
            case' ordB =>
              refine step_load 50 49 65 _ _ e1 rfl ?_
              refine hK.out _ _ (trivial) (fun hHeld => ?_)
              clear hK K
              refine wpAnyH_ready (rs := [9]) (by kernel_rfl) (by simp) ?_
              refine AllReadyH.cons rfl (fun K hK => ?_) AllReadyH.nil
              refine step_load 46 45 65 _ _ e2 rfl ?_
              refine hK.out _ _ (trivial) (fun hHeld => ?_)
              clear hK K
            all_goals
              refine wpAnyH_take (i := 14) (oi := ⟨some 51, _, _, _, _, _⟩) (v := ?_) rfl (by kernel_rfl) (by kernel_rfl) (by kernel_rfl) (fun _ _ _ h => h) (Or.inl ⟨by rfl, ?_⟩) hHeld ?_
              rotate_left
              · intro w hSw
                go_simp
                try with_reducible rfl
              try simp only [Act.put, List.setIfInBounds_toArray, List.set_cons_zero, List.set_cons_succ]
              refine wpAnyH_ready (rs := [15]) (by kernel_rfl) (by simp) ?_
              refine AllReadyH.cons rfl (fun K hK => ?_) AllReadyH.nil
              refine step_store 51 46 65 _ _ _ st1 rfl rfl ?_
              refine hK.out _ _ (trivial) (fun hHeld => ?_)
              clear hK K
              refine wpAnyH_take (i := 16) (oi := ⟨some 52, _, _, _, _, _⟩) (v := ?_) rfl (by kernel_rfl) (by kernel_rfl) (by kernel_rfl) (fun _ _ _ h => h) (Or.inl ⟨by rfl, ?_⟩) hHeld ?_
              rotate_left
              · intro w hSw
                go_simp
                try with_reducible rfl
              try simp only [Act.put, List.setIfInBounds_toArray, List.set_cons_zero, List.set_cons_succ]
              refine wpAnyH_ready (rs := [17]) (by kernel_rfl) (by simp) ?_
              refine AllReadyH.cons rfl (fun K hK => ?_) AllReadyH.nil
              refine step_store 52 50 65 _ _ _ st2 rfl rfl ?_
              refine hK.out _ _ (trivial) (fun hHeld => ?_)
              clear hK K
              refine wpAnyH_done (by kernel_rfl) ?_ _
              clear st1 st2 e1 e2 hHeld
              go_wp2
              have hkk := HK.out
              generalize World.setCells _ g (k * 8) p.toList = v5 at *
              go_roundw
              case rel => exact ⟨k, (M2.set j q).set k p, by go_num, by omega, HP5.out, by rw [List.length_set, List.length_set]; exact HMl.out, HML5.out, HT5.out⟩
              case measure => simp [intOf]; omega
          · have HP2 := Lib.hid hP2
            have HT2 := Lib.hid hT2
            clear hP2 hT2
            go_wp2
            go_roundw
            case rel => exact ⟨i + 1, M2, by go_num, by omega, by omega, HP2.out, HMl.out, HML.out, HT2.out⟩
            case measure => simp [intOf]; omega
end Go.Proofs.YtpanmfdbdgecaaaGreat.C

namespace Go.Proofs.YtpanmfdbdgecaaaGreat.C
open Go.RowKit
set_option linter.unusedVariables false
set_option maxRecDepth 100000 in
theorem len64_eight (m : Nat) (hm : m ≤ 8) (w : World) : Calls Tryz.prog 196 #[.int .u64 (m : Nat)] w fun e w' => (∃ c, e = .returned (.int .i64 c)) ∧ w' = w := by
  rcases (show m = 0 ∨ m = 1 ∨ m = 2 ∨ m = 3 ∨ m = 4 ∨ m = 5 ∨ m = 6 ∨ m = 7 ∨ m = 8 by omega) with rfl | rfl | rfl | rfl | rfl | rfl | rfl | rfl | rfl
  all_goals
    go_enter Tryz.func196, Tryz.ntmps196
    go_wp2
    go_ret
    exact ⟨⟨_, rfl⟩, rfl⟩
theorem len_eight (m : Nat) (hm : m ≤ 8) (w : World) : Calls Tryz.prog 180 #[.int .u64 (m : Nat)] w fun e w' => (∃ c, e = .returned (.int .i64 c)) ∧ w' = w := by
  have C := Lib.hid (len64_eight m hm w)
  go_enter Tryz.func180, Tryz.ntmps180
  go_wp2_with fail
  refine C.out.mono ?_
  rintro e w1 ⟨⟨c, rfl⟩, rfl⟩
  go_wp2
  go_ret
  exact ⟨⟨_, rfl⟩, rfl⟩
/-- What a sort of prefixes leaves. -/
def Sorted (g : Nat) (L : List (Array Value)) (w w' : World) : Prop := ∃ M, PR w' g M ∧ M.length = L.length ∧ (∀ p ∈ M, p ∈ L) ∧ Two g g w w'
theorem pdq_many (g c : Nat) (L : List (Array Value)) (f : Value) (d : Int) (w : World) (hf : f = .func (.func 161) #[] #[]) (hL : PR w g L) (hb : AllB L) (h1 : 1 ≤ L.length) (hm : L.length ≤ 12) : Calls Tryz.prog 179 #[.slice (some ⟨g, 0, none⟩) L.length c, .int .i64 0, .int .i64 (L.length : Nat), .int .i64 d, f] w fun e w' => e = .returned (.tuple #[]) ∧ Sorted g L w w' := by
  have C := Lib.hid (ins_many g c L f w hf hL hb h1 hm)
  obtain ⟨m, hn⟩ : ∃ m, L.length = m := ⟨_, rfl⟩
  rw [hn] at C hm ⊢
  have hmI : (m : Int) ≤ 12 := by omega
  have hw : IntKind.i64.wrap ((m : Int) - 0) = (m : Int) := by rw [Int.sub_zero]; exact IntWalk.i64_in _ (by omega)
  have HN := Lib.hid hn
  clear hn hL hb hf
  go_enter Tryz.func179, Tryz.ntmps179
  go_wp2_with fail
  go_loopw [1, 2, 3, 10, 11] (fun a b c d' e wr => a = .int .i64 0 ∧ b = .int .i64 (m : Nat) ∧ c = .int .i64 d ∧ d' = .bool true ∧ e = .bool true ∧ w = wr) (fun _ _ _ _ _ _ => 0)
  case atStart => exact ⟨rfl, rfl, rfl, rfl, rfl, rfl⟩
  case round =>
    obtain ⟨rfl, rfl, rfl, rfl, rfl, rfl⟩ := hrel
    go_wp2_with fail
    refine C.out.mono ?_
    rintro e w1 ⟨rfl, M, hP, hl, hM, hT⟩
    have HS := Lib.hid (show Sorted g L _ w1 from ⟨M, hP, hl.trans HN.out.symm, hM, hT⟩)
    clear hP hl hM hT
    go_wp2
    refine bodyPost_ret (results_none rfl _ _ _) rfl ?_
    exact ⟨rfl, HS.out⟩
theorem sort_many (g c : Nat) (L : List (Array Value)) (f : Value) (w : World) (hf : f = .func (.func 161) #[] #[]) (hL : PR w g L) (hb : AllB L) (h1 : 1 ≤ L.length) (hm : L.length ≤ 8) : Calls Tryz.prog 160 #[.slice (some ⟨g, 0, none⟩) L.length c, f] w fun e w' => e = .returned (.tuple #[]) ∧ Sorted g L w w' := by
  have C := Lib.hid (len_eight L.length hm)
  have D := Lib.hid (fun d w hL => pdq_many g c L f d w hf hL hb h1 (by omega))
  have HL := Lib.hid hL
  have hw : IntKind.u64.wrap (L.length : Int) = (L.length : Int) := by rw [IntKind.wrap_u64]; omega
  clear hL hb hf
  generalize hn : L.length = m at *
  clear hn
  go_enter Tryz.func160, Tryz.ntmps160
  go_wp2_with fail
  refine (C.out _).mono ?_
  rintro e w1 ⟨⟨c1, rfl⟩, rfl⟩
  go_wp2_with fail
  refine (D.out _ _ HL.out).mono ?_
  rintro e w2 ⟨rfl, hS⟩
  have HS := Lib.hid hS
  clear hS
  go_wp2
  go_end0
  exact ⟨rfl, HS.out⟩
theorem pr_of_own {w : World} {base c : Nat} {A : Option Addr} {T : List (Array Value)} (h : w.ownsRow base 65 8 (.slice A T.length c) T.length (pfL T)) (h1 : 1 ≤ T.length) (hs : ∀ p ∈ T, p.size = 8) : ∃ g, A = some ⟨g, 0, none⟩ ∧ base ≤ g ∧ PR w g T := by
  rcases h.2 with ⟨_, hn⟩ | ⟨g, cap, cur, hv, hb, hh, hnc, _, hcs, ht⟩
  · omega
  · injection hv with h4 h5 h6
    refine ⟨g, h4, hb, cur, hh, by omega, fun i p hp j v hv => ?_⟩
    have hls : ∀ c ∈ T.map (·.toList), c.length = 8 := fun c hc => by
      obtain ⟨x, hx, rfl⟩ := List.mem_map.1 hc
      rw [Array.length_toList, hs x hx]
    have hm : (T.map (·.toList))[i]? = some p.toList := by simp [hp]
    have hpl : p.toList.length = 8 := hls _ (List.mem_of_getElem? hm)
    have hj := (List.getElem?_eq_some_iff.1 hv).1
    have hi := (List.getElem?_eq_some_iff.1 hp).1
    have e := flat_at _ hls i j p.toList hm (by omega)
    have e2 : (cur.toList.take (T.length * 8))[i * 8 + j]? = some v := by
      rw [ht]
      exact e.trans hv
    rw [List.getElem?_take_of_lt (by omega)] at e2
    simpa using e2
/-- What All gives: the taken places' prefixes, in some order. -/
def Lists (base : Nat) (l : List Plc) (w w' : World) (e : Ending) : Prop := ∃ (M : List (Array Value)) (A : Option Addr) (c : Nat), e = .returned (.slice A M.length c) ∧ M.length = (tkn l).length ∧ (∀ p ∈ M, p ∈ tkn l) ∧ (M ≠ [] → ∃ g, A = some ⟨g, 0, none⟩ ∧ base ≤ g ∧ PR w' g M) ∧ Below base w w'
set_option maxRecDepth 100000 in
set_option maxHeartbeats 2000000 in
theorem table_many (pb b room : Nat) (l : List Plc) (nn : Int) (w : World) (h : TbAt w pb b l room nn) (hl1 : l.length ≤ 65536) (hm : (tkn l).length ≤ 8) (hab : AllB (tkn l)) :
    Calls Tryz.prog 117 #[.pointer (some ⟨pb, 0, none⟩)] w fun e w' => Lists w.heap.size l w w' e := by
  obtain ⟨i0, hi, hz0, hz1, hz2⟩ := info_parts pf_info
  have Hi := Lib.hid hi
  have Hz0 := Lib.hid hz0
  have Hz1 := Lib.hid hz1
  have Hz2 := Lib.hid hz2
  have HH := Lib.hid h
  have HM := Lib.hid hm
  obtain ⟨n, hn⟩ : ∃ n, l.length = n := ⟨_, rfl⟩
  have HN := Lib.hid hn
  have k0 := h.cells.1
  rw [hn] at k0 hl1
  have CS := Lib.hid sort_small
  have CM := Lib.hid sort_many
  have HAB := Lib.hid hab
  have htz := tpl_zero
  obtain ⟨TZ, hTZ⟩ : ∃ Z, (plcC plc0).toArray = Z := ⟨_, rfl⟩
  have hTZs : TZ.size = 11 := by rw [← hTZ]; rfl
  rw [hTZ] at htz
  have HTZ := Lib.hid htz
  have HTZS := Lib.hid hTZs
  have hpz : (Value.agg PfZ) = .agg PfZ := rfl
  clear htz hTZs hTZ hi hz0 hz1 hz2 h hn hm hpz hab
  go_enter Tryz.func117, Tryz.ntmps117
  go_wp2_with fail
  go_loopw [3, 13] (fun s t wr => ∃ k : Nat, k ≤ n ∧ t = .int .i64 (k : Nat) ∧ wr.ownsRow w.heap.size 65 8 s (tkn (l.take k)).length (pfL (tkn (l.take k))) ∧ Below w.heap.size w wr) (fun _ t _ => n - (intOf t).toNat)
  case atStart => exact ⟨0, by omega, rfl, World.ownsRow_nil _ _ _ _, Below.refl _ _⟩
  case round =>
    obtain ⟨k, hk, rfl, ho, hB⟩ := hrel
    have HO := Lib.hid ho
    have HB := Lib.hid hB
    clear ho hB
    by_cases hkn : k = n
    · subst hkn
      have e : l.take k = l := List.take_of_length_le (by rw [HN.out]; exact Nat.le_refl _)
      have ho := HO.out
      rw [e] at ho
      obtain ⟨A, c, rfl⟩ := OW.slice ho
      have HO2 := Lib.hid ho
      clear ho e
      by_cases hT0 : (tkn l).length ≤ 1 ∧ (tkn l).length = 0
      · have HT0 := Lib.hid hT0
        clear hT0
        go_wp2_with fail
        refine (CS.out A _ c _ HT0.out.1 _).mono ?_
        rintro e w1 ⟨rfl, rfl⟩
        go_wp2
        go_ret
        exact ⟨[], A, c, by rw [HT0.out.2]; rfl, by rw [HT0.out.2]; rfl, fun p hp => (by cases hp), fun h => absurd rfl h, HB.out⟩
      · have h1 : 1 ≤ (tkn l).length := by omega
        obtain ⟨g, rfl, hg, hP⟩ := pr_of_own HO2.out h1 (fun p hp => (HAB.out p hp).1.size)
        have HP := Lib.hid hP
        have HG := Lib.hid hg
        clear hP hg hT0
        go_wp2_with fail
        refine (CM.out g c (tkn l) _ _ rfl HP.out HAB.out h1 HM.out).mono ?_
        rintro e w1 ⟨rfl, M, hPM, hl, hM, hT⟩
        have hB2 := HB.out.trans (hT.below HB.out.size HG.out HG.out)
        have HPM := Lib.hid hPM
        have HLM := Lib.hid hl
        have HMM := Lib.hid hM
        have HB2 := Lib.hid hB2
        clear hPM hl hM hT hB2
        go_wp2
        go_ret
        exact ⟨M, some ⟨g, 0, none⟩, c, by rw [HLM.out]; rfl, HLM.out, HMM.out, fun _ => ⟨g, rfl, HG.out, HPM.out⟩, HB2.out⟩
    · have hlt : (k : Int) < (n : Int) := by omega
      obtain ⟨x, hx⟩ : ∃ x, l[k]? = some x := ⟨_, List.getElem?_eq_getElem (by rw [HN.out]; omega)⟩
      have hT3 := HH.out.below HB.out
      have hld := box_load_mid (t := 274) hT3.row (hT3.at hx) _ Tryz.underlying274 rfl (by rw [List.size_toArray, plcC_len hT3.pre _ (by exact List.mem_map.2 ⟨x, List.mem_of_getElem? hx, rfl⟩)]; exact tpl_size)
      have hx11 : (plcC x).toArray.size = 11 := by rw [List.size_toArray]; exact plcC_len hT3.pre _ (by exact List.mem_map.2 ⟨x, List.mem_of_getElem? hx, rfl⟩)
      have hpx := hT3.pre x (List.mem_of_getElem? hx)
      have hxs : (Tryz.prog.info? 274).map (·.size) = some (plcC x).toArray.size := by rw [hx11]; exact tpl_size
      have hxa : (plcC x).toArray.all (·.oneCell') = true := plcC_all x.state x.til x.tok hpx.2
      have hxp : (plcC x).toArray.extract 1 (1 + 8) = x.p := by
        have hps := hpx.1
        simp [plcC]
        rw [List.take_append_of_le_length (by simp [hps]), List.take_of_length_le (by simp [hps]), Array.toArray_toList]
      have hX0 : (plcC x).toArray[0]? = some (.int .i64 x.state) := rfl
      have hpsx : (Tryz.prog.info? 65).map (·.size) = some x.p.size := by rw [hpx.1]; exact pf_size
      have hsn := tkn_snoc l k x hx
      generalize (plcC x).toArray = X at *
      have HKS := Lib.hid hpsx
      have HXA := Lib.hid hxa
      have HXS := Lib.hid hxs
      have HXP := Lib.hid hxp
      have HX0 := Lib.hid hX0
      have HX11 := Lib.hid hx11
      have HSN := Lib.hid hsn
      have HPX := Lib.hid hpx
      clear hX0 hpsx hxa hxs hxp hx11 hpx hx hT3 hsn
      generalize x.state = st at *
      generalize x.p = xp at *
      have hs3 := HB.out.size
      go_upto_region 7 with (first
        | ((with_reducible refine arm_load 16 15 274 _ _ hld ?_ ?_); rfl)
        | ((with_reducible refine arm_alloc 5 274 TZ 11 HTZ.out ?_); intro w5 HB5 HX5 HS5; have hst := box_store (t := 274) (x := X) HX5.out HXS.out HXA.out (HTZS.out.trans HX11.out.symm); have hbx := Lib.hid (box_whole (cs := X) HX5.out (HX11.out.trans HTZS.out.symm)); have hf5 := Lib.hid (below_setCells (b := wr.heap.size) (Nat.le_refl _) X.toList 0 HB5.out))
        | ((with_reducible refine arm_store 5 16 274 _ _ _ hst ?_ ?_ ?_); rfl; rfl))
      have HB6 := Lib.hid (HB.out.trans (hf5.out.mono hs3))
      have HO6 := Lib.hid (OW.below HO.out hf5.out)
      have hb6 := hbx.out
      clear hst hld hbx hf5 HX5 HB5 HS5 HO
      generalize World.setCells w5 _ 0 X.toList = w6 at *
      generalize wr.heap.size = tb at *
      have ks := cells_of_row hb6 0 _ HX0.out
      have hlp := box_load_mid (t := 65) hb6 (of_extract HXP.out) _ Tryz.underlying65 rfl HKS.out
      have hkw : IntKind.i64.wrap ((k : Int) + 1) = ((k + 1 : Nat) : Int) := by rw [IntWalk.i64_in _ (by omega)]; omega
      have hs6 := HB6.out.size
      have hxo : ∀ u ∈ xp.toList, u.oneCell' = true := fun u hu => Array.all_eq_true_iff_forall_mem.1 HPX.out.2 u (by simpa using hu)
      have HXO := Lib.hid hxo
      have hlen : (tkn (l.take k)).length ≤ k := Nat.le_trans (tkn_len _) (by rw [List.length_take]; omega)
      clear hxo
      by_cases hst1 : st = 1
      · subst hst1
        rw [if_pos rfl] at HSN
        generalize hT : tkn (l.take k) = T at *
        have HT := Lib.hid hT
        clear hT
        go_wp2_with (first
          | ((with_reducible refine arm_load 22 21 65 _ _ hlp ?_ ?_); rfl)
          | ((with_reducible refine wpList_buildSlice_one 23 22 44 65 xp 8 ?_ ?_ ?_ ?_ ?_ ?_ ?_ ?_); rfl; exact Tryz.underlying44; exact pf_size; (exact ⟨.agg PfZ, by rw [Hi.out]; simp [Hz0.out]⟩); omega; omega; (exact HPX.out.1))
          | (at_builtin; go_must (refine wpList_append_own_at _ rfl (.tmp 20) (.tmp 23) 44 rfl w.heap.size 65 i0 (.agg PfZ) 8 8 Tryz.underlying44 Hi.out Hz0.out Hz1.out Hz2.out rfl (by omega) u3 T.length (pfL T) rfl (by exact World.ownsRow.alloc (w := w6) HO6.out _) ⟨w6.heap.size, 0, none⟩ 1 1 xp.toList rfl ?_ ?_ HXO.out ?_ ?_ ?_ ?_)))
        · rw [Array.length_toList, HPX.out.1]
        · intro j u hu
          rw [OW.addr_off, Nat.zero_add, cell_of_row _ _ _ _ _ _ (Go.heap_alloc_new w6 _)]
          simpa using hu
        · simp only [maxLen]; omega
        · omega
        · simp; omega
        · intro v' w' hown' hg _ hat
          have hB' : Below w.heap.size w w' := (HB6.out.alloc hs6 (.cells xp 65)).grown hg (by simp; omega) (fun q hq => (World.ownsRow.lt HO6.out q hq).1)
          have hown2 : w'.ownsRow w.heap.size 65 8 v' (tkn (l.take (k + 1))).length (pfL (tkn (l.take (k + 1)))) := by
            rw [HSN.out, ← pfL_snoc, List.length_append]
            exact hown'
          have HO7 := Lib.hid hown2
          have HB7 := Lib.hid hB'
          clear hown' hg hat hB' hown2 hlp
          go_wp2
          go_roundw
          case rel => exact ⟨k + 1, by omega, by go_num, HO7.out, HB7.out⟩
          case measure => simp [intOf]; omega
      · have hb1 : (st == 1) = false := beq_false_of_ne hst1
        rw [if_neg hst1] at HSN
        clear hlp
        go_wp2
        go_roundw
        case rel => exact ⟨k + 1, by omega, by go_num, by rw [HSN.out]; exact HO6.out, HB6.out⟩
        case measure => simp [intOf]; omega
end Go.Proofs.YtpanmfdbdgecaaaGreat.C

namespace Go.Proofs.YtpanmfdbdgecaaaGreat.C
open Go.RowKit
set_option linter.unusedVariables false
theorem zeroCells_flat (Z : Array Value) (m n : Nat) (hZ : Z.size = m) (hm : 0 < m) : (Builtin.zeroCells Z n).toList = (List.replicate n Z.toList).flatten := by
  apply List.ext_getElem?
  intro i
  simp only [Builtin.zeroCells, Array.toList_map, Array.toList_range, List.getElem?_map]
  by_cases hi : i < n * m
  · have h1 : i / m < n := (Nat.div_lt_iff_lt_mul hm).2 hi
    have hf := flat_at (List.replicate n Z.toList) (m := m) (fun c hc => by obtain ⟨_, rfl⟩ := List.mem_replicate.1 hc; simpa using hZ) (i / m) (i % m) Z.toList (by rw [List.getElem?_replicate, if_pos h1]) (Nat.mod_lt _ hm)
    have e : i / m * m + i % m = i := Nat.div_add_mod' i m
    rw [e] at hf
    rw [hf, hZ, List.getElem?_range hi]
    have hk := Nat.mod_lt i hm
    simp [hZ, getElem!_pos, hk]
  · rw [List.getElem?_eq_none (by simp [hZ]; omega), List.getElem?_eq_none]
    · rfl
    · rw [flat_length m _ (fun c hc => by obtain ⟨_, rfl⟩ := List.mem_replicate.1 hc; simpa using hZ), List.length_replicate]
      omega
section
variable {P : Program} {ops : Array Oper} {rest : List Oper} {a : Act} {w : World} {Q : Exit → Act → World → Prop} {ty : TypeId} {pos : String} {after : Array Edge}
end
section
variable {w : World} {pb b room : Nat} {l : List Plc} {nn : Int}
theorem TbAt.clear (h : TbAt w pb b l room nn) (hl : 1 ≤ l.length) (c : Nat) (ty : TypeId) : (Builtin.clear_ #[275] ty #[.slice (some ⟨b, 0, none⟩) l.length c]).run Tryz.prog w = .ok (.tuple #[]) (w.setCells b 0 (List.replicate l.length (plcC plc0)).flatten) := by
  have hz := zeroCells_flat (plcC plc0).toArray 11 l.length rfl (by omega)
  have hv : (zeroValue 274).run Tryz.prog w = .ok (.agg (plcC plc0).toArray) w := by
    have := tpl_zero
    cases hq : Tryz.prog.info? 274 with
    | none => simp [hq] at this
    | some i =>
      simp [hq] at this
      simp [zeroValue, typeInfo, hq, this.1, go_sem]
  have hlen : (List.replicate l.length (plcC plc0)).flatten.length = l.length * 11 := by
    rw [flat_length 11 _ (fun c hc => by obtain ⟨_, rfl⟩ := List.mem_replicate.1 hc; rfl), List.length_replicate]
  have hth := there_of_block (o := 0) (n := l.length * 11) h.row (by rw [h.size]; omega)
  have hst := run_storeCells_cells (P := Tryz.prog) b 0 (List.replicate l.length (plcC plc0)).flatten 0 w (fun j hj => (hth j (by rwa [hlen] at hj)).1) (fun j hj => (hth j (by rwa [hlen] at hj)).2) (fun v hv => by
    obtain ⟨c, hc, hv⟩ := List.mem_flatten.1 hv
    obtain ⟨_, rfl⟩ := List.mem_replicate.1 hc
    have : (plcC plc0).all (·.oneCell') = true := by kernel_rfl
    exact List.all_eq_true.1 this v hv)
  simp only [Nat.add_zero] at hst
  rw [List.toList_toArray] at hz
  obtain ⟨m, hm⟩ : ∃ m, l.length = m + 1 := ⟨l.length - 1, by omega⟩
  rw [hm] at hz hst ⊢
  rw [List.toList_toArray] at hz
  obtain ⟨Zs, hZs⟩ : ∃ Zs, Builtin.zeroCells (plcC plc0).toArray (m + 1) = Zs := ⟨_, rfl⟩
  rw [hZs] at hz
  rw [← hz] at hst ⊢
  generalize hq : (plcC plc0).toArray = PA at *
  simp [Builtin.clear_, run_underlying Tryz.underlying275, hv, Value.cells, hZs, hst]
end
end Go.Proofs.YtpanmfdbdgecaaaGreat.C

namespace Go.Proofs.YtpanmfdbdgecaaaGreat.C
open Go.RowKit
set_option linter.unusedVariables false
/-- What a prefix has in the table. -/
structure Gets (l : List Plc) (p0 p1 p2 : Nat) (til : Int) (tk : Option Addr) (ok : Bool) : Prop where
  fl : ∀ x ∈ l, Flat Tryz.prog 65 x.p
  b0 : p0 < 256 ∧ p1 < 256 ∧ p2 < 256
  len : 1 ≤ l.length ∧ l.length ≤ 65536
  is : (ok = false ∧ (at1 l p0 p1 p2).1 = -1 ∧ til = 0 ∧ tk = none) ∨ (ok = true ∧ ∃ (i : Nat) (x : Plc), (at1 l p0 p1 p2).1 = (i : Int) ∧ l[i]? = some x ∧ til = x.til ∧ tokV x.tok = .pointer tk)
theorem table_get {pb b room : Nat} {l : List Plc} {nn : Int} {p0 p1 p2 : Nat} {til : Int} {tk : Option Addr} {ok : Bool} (hg : Gets l p0 p1 p2 til tk ok) (w : World) (h : TbAt w pb b l room nn) :
    Calls Tryz.prog 69 #[.pointer (some ⟨pb, 0, none⟩), .agg (pfx p0 p1 p2)] w fun e w' => e = .returned (.tuple #[.agg #[.int .i64 til, .pointer tk], .bool ok]) ∧ Below w.heap.size w w' := by
  rcases hg.is with ⟨rfl, h1, rfl, rfl⟩ | ⟨rfl, i, x, h1, h2, rfl, h4⟩
  · exact table_get_no pb b room l nn p0 p1 p2 w h hg.fl hg.b0.1 hg.b0.2.1 hg.b0.2.2 hg.len.1 hg.len.2 h1
  · have := table_get_yes pb b room l nn p0 p1 p2 i x w h hg.fl hg.b0.1 hg.b0.2.1 hg.b0.2.2 hg.len.1 hg.len.2 h1 h2
    rw [h4] at this
    exact this
theorem BxAt.cells {w : World} {xb pb b room : Nat} {l : List Plc} {n term rate burst : Int} (h : BxAt w xb pb b l room n term rate burst) : w.cell? ⟨xb, 0, none⟩ = some (.pointer (some ⟨pb, 0, none⟩)) ∧ w.cell? ⟨xb, 1, none⟩ = some (.int .i64 term) ∧ w.cell? ⟨xb, 2, none⟩ = some (.int .i64 rate) ∧ w.cell? ⟨xb, 3, none⟩ = some (.int .i64 burst) := by
  rw [cell_of_row _ _ _ _ _ _ h.ptr, cell_of_row _ _ _ _ _ _ h.ptr, cell_of_row _ _ _ _ _ _ h.ptr, cell_of_row _ _ _ _ _ _ h.ptr]
  exact ⟨rfl, rfl, rfl, rfl⟩
theorem BxAt.ne {w : World} {xb pb b room : Nat} {l : List Plc} {n term rate burst : Int} (h : BxAt w xb pb b l room n term rate burst) : xb ≠ pb ∧ xb ≠ b := ⟨ne_ty h.ptr h.tb.ptr (by decide), ne_ty h.ptr h.tb.row (by decide)⟩
def EZ : Array Value := #[.int .i64 0, .pointer none]
theorem ez_zero : (Tryz.prog.info? 199).map (fun i => (i.zero, i.size)) = some (some (.agg EZ), 2) := by kernel_rfl
end Go.Proofs.YtpanmfdbdgecaaaGreat.C

namespace Go.Proofs.YtpanmfdbdgecaaaGreat.C
open Go.RowKit
set_option linter.unusedVariables false
/-- What a sweep at a moment leaves. -/
def Sweeps (xb pb b room : Nat) (l : List Plc) (nn term rate burst now : Int) (l' : List Plc) (nn' : Int) : Prop :=
  ∀ w, BxAt w xb pb b l room nn term rate burst → Calls Tryz.prog 68 #[.pointer (some ⟨xb, 0, none⟩), .int .i64 now] w fun e w' => e = .returned (.bool true) ∧ BxAt w' xb pb b l' room nn' term rate burst ∧ Two pb b w w'
section
variable {xb pb b room : Nat} {l : List Plc} {nn term rate burst now : Int}
end
set_option maxRecDepth 100000 in
set_option maxHeartbeats 1000000 in
theorem box_in (xb pb b room : Nat) (l l' : List Plc) (nn nn' term rate burst now til : Int) (tk : Option Addr) (ok : Bool) (p0 p1 p2 : Nat) (w : World) (h : BxAt w xb pb b l room nn term rate burst) (hs : Sweeps xb pb b room l nn term rate burst now l' nn') (hg : Gets l' p0 p1 p2 til tk ok) :
    Calls Tryz.prog 38 #[.pointer (some ⟨xb, 0, none⟩), .agg (pfx p0 p1 p2), .int .i64 now] w fun e w' => e = .returned (.bool ok) ∧ BxAt w' xb pb b l' room nn' term rate burst ∧ Two pb b w w' := by
  have HS := Lib.hid hs
  have HH := Lib.hid h
  have hcg := fun (w' : World) (q : TbAt w' pb b l' room nn') => table_get hg w' q
  have HCG := Lib.hid hcg
  have hps : (Tryz.prog.info? 65).map (·.size) = some (pfx p0 p1 p2).size := pf_size
  have HPS := Lib.hid hps
  clear h hg hcg hs hps
  generalize pfx p0 p1 p2 = p at *
  go_enter Tryz.func38, Tryz.ntmps38
  go_upto_region 1 with ((with_reducible refine arm_box 4 1 65 p ?_ ?_); rfl; intro w1 HB HX HS1)
  have CS := Lib.hid (HS.out w1 (HH.out.below HB.out))
  go_wp2_with fail
  refine CS.out.mono ?_
  rintro e w2 ⟨rfl, hX2, hT2⟩
  have h1 := HH.out.below HB.out
  have n1 := ne_ty HX.out h1.tb.ptr (by decide)
  have n2 := ne_ty HX.out h1.tb.row (by decide)
  have P2 := Lib.hid ((hT2.block _ (Array.getElem?_eq_some_iff.1 HX.out).1 n1 n2).trans HX.out)
  have T2 := Lib.hid (two_ofB (x := pb) (y := b) HB.out |>.trans hT2)
  have HX2 := Lib.hid hX2
  clear hX2 hT2 h1 n1 n2 CS HX HS1 HB
  have HL : Hid (∀ w', Below w2.heap.size w2 w' → w'.cell? ⟨xb, 0, none⟩ = some (.pointer (some ⟨pb, 0, none⟩)) ∧ (Instr.loadAt 65 (.pointer (some ⟨w.heap.size, 0, none⟩))).run Tryz.prog w' = .ok (.agg p) w') := Lib.hid fun w' q => ⟨(HX2.out.below q).cells.1, box_load (t := 65) (keep_block q P2.out) _ Tryz.underlying65 rfl HPS.out⟩
  have CG : Hid (∀ w', Below w2.heap.size w2 w' → Calls Tryz.prog 69 #[.pointer (some ⟨pb, 0, none⟩), .agg p] w' fun e w'' => e = .returned (.tuple #[.agg #[.int .i64 til, .pointer tk], .bool ok]) ∧ Below w'.heap.size w' w'') := Lib.hid fun w' q => HCG.out w' (HX2.out.below q).tb
  go_wp2_with fail
  refine wp_region_held_drew (S := Below w2.heap.size w2) (by kernel_rfl) (Below.refl _ _).drew (fun hHeld => ?_)
  refine wpAnyH_take (i := 0) (oi := ⟨some 14, _, _, _, _, _⟩) (v := ?_) rfl (by kernel_rfl) (by kernel_rfl) (by kernel_rfl) (fun _ _ _ h => h) (Or.inl ⟨by rfl, ?_⟩) hHeld ?_
  rotate_left
  · intro w hSw
    go_simp
    try with_reducible rfl
  try simp only [Act.put, List.setIfInBounds_toArray, List.set_cons_zero, List.set_cons_succ]
  refine wpAnyH_take (i := 1) (oi := ⟨some 15, _, _, _, _, _⟩) (v := ?_) rfl (by kernel_rfl) (by kernel_rfl) (by kernel_rfl) (fun _ _ _ h => h) (Or.inl ⟨by rfl, ?_⟩) hHeld ?_
  rotate_left
  · intro w hSw
    go_simp
    try with_reducible rfl
  try simp only [Act.put, List.setIfInBounds_toArray, List.set_cons_zero, List.set_cons_succ]
  refine wpAnyH_take (i := 2) (oi := ⟨some 16, _, _, _, _, _⟩) (v := ?_) rfl (by kernel_rfl) (by kernel_rfl) (by kernel_rfl) (fun _ _ _ h => h) (Or.inl ⟨by rfl, ?_⟩) hHeld ?_
  rotate_left
  · intro w hSw
    go_simp
    try with_reducible rfl
  try simp only [Act.put, List.setIfInBounds_toArray, List.set_cons_zero, List.set_cons_succ]
  refine wpAnyH_take (i := 3) (oi := ⟨some 17, _, _, _, _, _⟩) (v := ?_) rfl (by kernel_rfl) (by kernel_rfl) (by kernel_rfl) (fun _ _ _ h => h) (Or.inl ⟨by rfl, ?_⟩) hHeld ?_
  rotate_left
  · intro w hSw
    obtain ⟨k0, _⟩ := HL.out w hSw
    go_simp
    try with_reducible rfl
  try simp only [Act.put, List.setIfInBounds_toArray, List.set_cons_zero, List.set_cons_succ]
  refine wpAnyH_take (i := 4) (oi := ⟨some 18, _, _, _, _, _⟩) (v := .agg p) rfl (by kernel_rfl) (by kernel_rfl) (by kernel_rfl) (fun _ _ _ h => h) (Or.inl ⟨by rfl, fun w hSw => exec_load rfl (HL.out w hSw).2⟩) hHeld ?_
  try simp only [Act.put, List.setIfInBounds_toArray, List.set_cons_zero, List.set_cons_succ]
  refine wpAnyH_ready (rs := [5, 9]) (by kernel_rfl) (by simp) ?_
  refine AllReadyH.cons rfl (fun K hK => ?_) (AllReadyH.cons rfl (fun K hK => ?_) AllReadyH.nil)
  · skip
    go_simp
    go_wp2_with (go_at_call 69; go_must (refine (CG.out _ hHeld).mono ?_; rintro e w5 ⟨rfl, hB⟩))
    refine hK.out _ _ (hHeld.trans (hB.mono hHeld.size)) (fun hHeld => ?_)
    clear hK K
    refine wpAnyH_take (i := 6) (oi := ⟨some 13, _, _, _, _, _⟩) (v := ?_) rfl (by kernel_rfl) (by kernel_rfl) (by kernel_rfl) (fun _ _ _ h => h) (Or.inl ⟨by rfl, ?_⟩) hHeld ?_
    rotate_left
    · intro w hSw
      go_simp
      try with_reducible rfl
    try simp only [Act.put, List.setIfInBounds_toArray, List.set_cons_zero, List.set_cons_succ]
    refine wpAnyH_take (i := 7) (oi := ⟨some 20, _, _, _, _, _⟩) (v := ?_) rfl (by kernel_rfl) (by kernel_rfl) (by kernel_rfl) (fun _ _ _ h => h) (Or.inl ⟨by rfl, ?_⟩) hHeld ?_
    rotate_left
    · intro w hSw
      go_simp
      try with_reducible rfl
    try simp only [Act.put, List.setIfInBounds_toArray, List.set_cons_zero, List.set_cons_succ]
    refine wpAnyH_take (i := 8) (oi := ⟨some 21, _, _, _, _, _⟩) (v := ?_) rfl (by kernel_rfl) (by kernel_rfl) (by kernel_rfl) (fun _ _ _ h => h) (Or.inl ⟨by rfl, ?_⟩) hHeld ?_
    rotate_left
    · intro w hSw
      go_simp
      try with_reducible rfl
    try simp only [Act.put, List.setIfInBounds_toArray, List.set_cons_zero, List.set_cons_succ]
    refine wpAnyH_ready (rs := [9]) (by kernel_rfl) (by simp) ?_
    refine AllReadyH.cons rfl (fun K hK => ?_) AllReadyH.nil
    have hS9 := hHeld.size; refine step_alloc 7 199 EZ 2 ez_zero ?_; intro W9 HB9 HX9 HS9
    refine hK.out _ _ (hHeld.trans (HB9.out.mono hHeld.size)) (fun hHeld => ?_)
    clear hK K
    refine wpAnyH_ready (rs := [10]) (by kernel_rfl) (by simp) ?_
    refine AllReadyH.cons rfl (fun K hK => ?_) AllReadyH.nil
    have HBX := Lib.hid (box_whole (cs := #[.int .i64 til, .pointer tk]) HX9.out rfl); refine step_store 7 20 199 _ _ _ (box_store (x := #[.int .i64 til, .pointer tk]) HX9.out ent_size (by kernel_rfl) rfl) rfl rfl ?_
    refine hK.out _ _ (below_setCells hS9 _ _ hHeld) (fun hHeld => ?_)
    clear hK K
    refine wpAnyH_take (i := 11) (oi := ⟨some 8, _, _, _, _, _⟩) (v := ?_) rfl (by kernel_rfl) (by kernel_rfl) (by kernel_rfl) (fun _ _ _ h => h) (Or.inl ⟨by rfl, ?_⟩) hHeld ?_
    rotate_left
    · intro w hSw
      go_simp
      try with_reducible rfl
    try simp only [Act.put, List.setIfInBounds_toArray, List.set_cons_zero, List.set_cons_succ]
    refine wpAnyH_done (by kernel_rfl) ?_ _
    have HE := Lib.hid hHeld
    clear hHeld
    try simp only [Act.put, List.setIfInBounds_toArray, List.set_cons_zero, List.set_cons_succ]
    generalize World.setCells _ _ 0 (#[.int .i64 til, .pointer tk] : Array Value).toList = wE at *
    go_wp2
    go_ret
    exact ⟨rfl, HX2.out.below HE.out, T2.out.trans (two_ofB HE.out)⟩
  · skip
    have hS9 := hHeld.size; refine step_alloc 7 199 EZ 2 ez_zero ?_; intro W9 HB9 HX9 HS9
    refine hK.out _ _ (hHeld.trans (HB9.out.mono hHeld.size)) (fun hHeld => ?_)
    clear hK K
    refine wpAnyH_ready (rs := [5]) (by kernel_rfl) (by simp) ?_
    refine AllReadyH.cons rfl (fun K hK => ?_) AllReadyH.nil
    go_simp
    go_wp2_with (go_at_call 69; go_must (refine (CG.out _ hHeld).mono ?_; rintro e w5 ⟨rfl, hB⟩))
    refine hK.out _ _ (hHeld.trans (hB.mono hHeld.size)) (fun hHeld => ?_)
    clear hK K
    have HX10 := Lib.hid (keep_block hB HX9.out)
    refine wpAnyH_take (i := 6) (oi := ⟨some 13, _, _, _, _, _⟩) (v := ?_) rfl (by kernel_rfl) (by kernel_rfl) (by kernel_rfl) (fun _ _ _ h => h) (Or.inl ⟨by rfl, ?_⟩) hHeld ?_
    rotate_left
    · intro w hSw
      go_simp
      try with_reducible rfl
    try simp only [Act.put, List.setIfInBounds_toArray, List.set_cons_zero, List.set_cons_succ]
    refine wpAnyH_take (i := 7) (oi := ⟨some 20, _, _, _, _, _⟩) (v := ?_) rfl (by kernel_rfl) (by kernel_rfl) (by kernel_rfl) (fun _ _ _ h => h) (Or.inl ⟨by rfl, ?_⟩) hHeld ?_
    rotate_left
    · intro w hSw
      go_simp
      try with_reducible rfl
    try simp only [Act.put, List.setIfInBounds_toArray, List.set_cons_zero, List.set_cons_succ]
    refine wpAnyH_take (i := 8) (oi := ⟨some 21, _, _, _, _, _⟩) (v := ?_) rfl (by kernel_rfl) (by kernel_rfl) (by kernel_rfl) (fun _ _ _ h => h) (Or.inl ⟨by rfl, ?_⟩) hHeld ?_
    rotate_left
    · intro w hSw
      go_simp
      try with_reducible rfl
    try simp only [Act.put, List.setIfInBounds_toArray, List.set_cons_zero, List.set_cons_succ]
    refine wpAnyH_ready (rs := [10]) (by kernel_rfl) (by simp) ?_
    refine AllReadyH.cons rfl (fun K hK => ?_) AllReadyH.nil
    have HBX := Lib.hid (box_whole (cs := #[.int .i64 til, .pointer tk]) HX10.out rfl); refine step_store 7 20 199 _ _ _ (box_store (x := #[.int .i64 til, .pointer tk]) HX10.out ent_size (by kernel_rfl) rfl) rfl rfl ?_
    refine hK.out _ _ (below_setCells hS9 _ _ hHeld) (fun hHeld => ?_)
    clear hK K
    refine wpAnyH_take (i := 11) (oi := ⟨some 8, _, _, _, _, _⟩) (v := ?_) rfl (by kernel_rfl) (by kernel_rfl) (by kernel_rfl) (fun _ _ _ h => h) (Or.inl ⟨by rfl, ?_⟩) hHeld ?_
    rotate_left
    · intro w hSw
      go_simp
      try with_reducible rfl
    try simp only [Act.put, List.setIfInBounds_toArray, List.set_cons_zero, List.set_cons_succ]
    refine wpAnyH_done (by kernel_rfl) ?_ _
    have HE := Lib.hid hHeld
    clear hHeld
    try simp only [Act.put, List.setIfInBounds_toArray, List.set_cons_zero, List.set_cons_succ]
    generalize World.setCells _ _ 0 (#[.int .i64 til, .pointer tk] : Array Value).toList = wE at *
    go_wp2
    go_ret
    exact ⟨rfl, HX2.out.below HE.out, T2.out.trans (two_ofB HE.out)⟩
end Go.Proofs.YtpanmfdbdgecaaaGreat.C
