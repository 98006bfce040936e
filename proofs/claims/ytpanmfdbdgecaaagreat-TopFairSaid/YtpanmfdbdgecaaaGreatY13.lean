/- Blue of one level: Touch, Mark, Put. · The police: a flow's bins, a class's bytes, the count of one that isn't boxed. · The police: a packet of somebody who isn't in the box, and is taken in. -/
import Derived.Test.YtpanmfdbdgecaaaGreatY12
namespace Go.Proofs.YtpanmfdbdgecaaaGreat.C
open Go.RowKit
set_option linter.unusedVariables false
set_option maxRecDepth 100000 in
theorem blue_flows (pb b g c k bn : Nat) (l : List Bin) (tg hd up dn : Int) (w : World) (h : BlAt w pb b l 1 bn tg hd up dn) (hk : w.cell? ⟨g, 0, none⟩ = some (.int .i64 (k : Nat))) (hkn : k < bn) :
    Calls Tryz.prog 172 #[.pointer (some ⟨pb, 0, none⟩), .slice (some ⟨g, 0, none⟩) 1 c] w fun e w' => e = .returned (.bool true) ∧ w' = w := by
  obtain ⟨_, c1, c2, _⟩ := h.cells
  clear h
  have d1 : ¬ ((k : Int) < 0) := by omega
  have d2 : ¬ ((bn : Int) ≤ (k : Int)) := by omega
  go_enter Tryz.func172, Tryz.ntmps172
  go_wp2_with fail
  go_loopw [20] (fun t wr => ∃ i : Nat, i ≤ 1 ∧ t = .int .i64 (i : Nat) ∧ w = wr) (fun t _ => 1 - (intOf t).toNat)
  case atStart => exact ⟨0, by omega, rfl, rfl⟩
  case round =>
    obtain ⟨i, hi, rfl, rfl⟩ := hrel
    rcases (show i = 0 ∨ i = 1 by omega) with rfl | rfl
    · go_wp2_with fail
      refine ⟨⟨1, by omega, rfl, by first | rfl | trivial⟩, ?_⟩
      simp [intOf]
    · go_wp2
      go_ret
      exact ⟨rfl, rfl⟩
set_option maxRecDepth 100000 in
theorem each_touch (pb b g c k bn nb bb : Nat) (l : List Bin) (x : Bin) (tg hd up dn now : Int) (w : World) (h : BlAt w pb b l 1 bn tg hd up dn) (hk : w.cell? ⟨g, 0, none⟩ = some (.int .i64 (k : Nat))) (hkn : k < bn) (hbn : bn ≤ 64) (hx : l[k]? = some x) (ho : BinOk x) (hn : w.cell? ⟨nb, 0, none⟩ = some (.int .i64 now)) (hb : w.cell? ⟨bb, 0, none⟩ = some (.pointer (some ⟨pb, 0, none⟩))) (nnb : nb ≠ b) (nbb : bb ≠ b) (hnow : 0 ≤ now ∧ now ≤ 4611686018427387903) (hup : 0 ≤ up ∧ up ≤ 65536) (hdn : 0 ≤ dn ∧ dn ≤ 65536) :
    Calls Tryz.prog 139 #[.pointer (some ⟨pb, 0, none⟩), .slice (some ⟨g, 0, none⟩) 1 c, .func (.func 140) #[] #[.pointer (some ⟨nb, 0, none⟩), .pointer (some ⟨bb, 0, none⟩)]] w fun e w' => e = .returned (.bool true) ∧ (BlAt w' pb b (l.set k (touchB tg hd up dn now x)) 1 bn tg hd up dn ∧ Two b b w w') := by
  have C0 := Lib.hid (blue_flows pb b g c k bn l tg hd up dn w h hk hkn)
  have hll : l.length = bn := by rw [h.len]; omega
  obtain ⟨c0, _, c2, _⟩ := h.cells
  rw [hll] at c0
  have hne := h.ne
  have CF := Lib.hid (touch_fn pb b nb bb k bn l x tg hd up dn now w.drew h.drew hx ho hn hb nnb nbb hnow hup hdn)
  clear hx ho hn hb
  have hptr := h.ptr
  rw [hll] at hptr
  have HL : Hid (∀ w', Two b b w w' → w'.cell? ⟨pb, 0, none⟩ = some (.slice (some ⟨b, 0, none⟩) bn bn) ∧ w'.cell? ⟨pb, 2, none⟩ = some (.int .i64 (bn : Nat))) := Lib.hid fun w' q => by
    have a1 := (q.block pb (Array.getElem?_eq_some_iff.1 hptr).1 hne hne).trans hptr
    exact ⟨cells_of_row a1 0 _ rfl, cells_of_row a1 2 _ rfl⟩
  have HH := Lib.hid h
  clear h hptr
  have hkI : (k : Int) < (bn : Int) := by omega
  have hz1 : IntKind.i64.wrap (0 * (bn : Int)) = 0 := by rw [Int.zero_mul]; rfl
  have hz2 : IntKind.i64.wrap (0 + (k : Int)) = (k : Int) := by rw [Int.zero_add]; exact IntWalk.i64_in _ (by omega)
  have hz0 : IntKind.i64.wrap 0 = 0 := rfl
  have hz3 : IntKind.i64.wrap (k : Int) = (k : Int) := IntWalk.i64_in _ (by omega)
  have hz4 : (0 : Int) ≤ (k : Int) := by omega
  go_enter Tryz.func139, Tryz.ntmps139
  go_wp2_with fail
  refine C0.out.mono ?_
  rintro e w1 ⟨rfl, hw1⟩
  replace hw1 := hw1.symm
  subst hw1
  go_wp2_with fail
  go_loopw [15] (fun t wr => ∃ i : Nat, i ≤ 1 ∧ t = .int .i64 (i : Nat) ∧ (i = 0 → w = wr) ∧ (i = 1 → (BlAt wr pb b (l.set k (touchB tg hd up dn now x)) 1 bn tg hd up dn ∧ Two b b w wr))) (fun t _ => 1 - (intOf t).toNat)
  case atStart => exact ⟨0, by omega, rfl, fun _ => rfl, fun h => absurd h (by omega)⟩
  case round =>
    obtain ⟨i, hi, rfl, h0, h1⟩ := hrel
    rcases (show i = 0 ∨ i = 1 by omega) with rfl | rfl
    · obtain rfl := h0 rfl
      clear h0 h1
      go_wp2_with fail
      refine wp_region_held_drew (S := Two b b w) (by kernel_rfl) ((Two.refl _ _ w).drewN 1) (fun hHeld => ?_)
      refine wpAnyH_take (i := 0) (oi := ⟨some 20, _, _, _, _, _⟩) (v := ?_) rfl (by kernel_rfl) (by kernel_rfl) (by kernel_rfl) (fun _ _ _ h => h) (Or.inl ⟨by rfl, ?_⟩) hHeld ?_
      rotate_left
      · intro w hSw
        go_simp
        try with_reducible rfl
      try simp only [Act.put, List.setIfInBounds_toArray, List.set_cons_zero, List.set_cons_succ]
      refine wpAnyH_take (i := 1) (oi := ⟨some 21, _, _, _, _, _⟩) (v := ?_) rfl (by kernel_rfl) (by kernel_rfl) (by kernel_rfl) (fun _ _ _ h => h) (Or.inl ⟨by rfl, ?_⟩) hHeld ?_
      rotate_left
      · intro w hSw
        go_simp
        try with_reducible rfl
      try simp only [Act.put, List.setIfInBounds_toArray, List.set_cons_zero, List.set_cons_succ]
      refine wpAnyH_take (i := 2) (oi := ⟨some 22, _, _, _, _, _⟩) (v := ?_) rfl (by kernel_rfl) (by kernel_rfl) (by kernel_rfl) (fun _ _ _ h => h) (Or.inl ⟨by rfl, ?_⟩) hHeld ?_
      rotate_left
      · intro w hSw
        go_simp
        try with_reducible rfl
      try simp only [Act.put, List.setIfInBounds_toArray, List.set_cons_zero, List.set_cons_succ]
      refine wpAnyH_take (i := 3) (oi := ⟨some 23, _, _, _, _, _⟩) (v := ?_) rfl (by kernel_rfl) (by kernel_rfl) (by kernel_rfl) (fun _ _ _ h => h) (Or.inl ⟨by rfl, ?_⟩) hHeld ?_
      rotate_left
      · intro w hSw
        go_simp
        try with_reducible rfl
      try simp only [Act.put, List.setIfInBounds_toArray, List.set_cons_zero, List.set_cons_succ]
      refine wpAnyH_take (i := 4) (oi := ⟨some 24, _, _, _, _, _⟩) (v := ?_) rfl (by kernel_rfl) (by kernel_rfl) (by kernel_rfl) (fun _ _ _ h => h) (Or.inl ⟨by rfl, ?_⟩) hHeld ?_
      rotate_left
      · intro w hSw
        obtain ⟨k0, k2⟩ := HL.out w hSw
        go_simp
        try with_reducible rfl
      try simp only [Act.put, List.setIfInBounds_toArray, List.set_cons_zero, List.set_cons_succ]
      refine wpAnyH_take (i := 5) (oi := ⟨some 25, _, _, _, _, _⟩) (v := ?_) rfl (by kernel_rfl) (by kernel_rfl) (by kernel_rfl) (fun _ _ _ h => h) (Or.inl ⟨by rfl, ?_⟩) hHeld ?_
      rotate_left
      · intro w hSw
        go_simp
        try with_reducible rfl
      try simp only [Act.put, List.setIfInBounds_toArray, List.set_cons_zero, List.set_cons_succ]
      refine wpAnyH_take (i := 6) (oi := ⟨some 26, _, _, _, _, _⟩) (v := ?_) rfl (by kernel_rfl) (by kernel_rfl) (by kernel_rfl) (fun _ _ _ h => h) (Or.inl ⟨by rfl, ?_⟩) hHeld ?_
      rotate_left
      · intro w hSw
        go_simp
        try with_reducible rfl
      try simp only [Act.put, List.setIfInBounds_toArray, List.set_cons_zero, List.set_cons_succ]
      refine wpAnyH_take (i := 7) (oi := ⟨some 27, _, _, _, _, _⟩) (v := ?_) rfl (by kernel_rfl) (by kernel_rfl) (by kernel_rfl) (fun _ _ _ h => h) (Or.inl ⟨by rfl, ?_⟩) hHeld ?_
      rotate_left
      · intro w hSw
        go_simp
        try with_reducible rfl
      try simp only [Act.put, List.setIfInBounds_toArray, List.set_cons_zero, List.set_cons_succ]
      refine wpAnyH_take (i := 8) (oi := ⟨some 28, _, _, _, _, _⟩) (v := ?_) rfl (by kernel_rfl) (by kernel_rfl) (by kernel_rfl) (fun _ _ _ h => h) (Or.inl ⟨by rfl, ?_⟩) hHeld ?_
      rotate_left
      · intro w hSw
        go_simp
        try with_reducible rfl
      try simp only [Act.put, List.setIfInBounds_toArray, List.set_cons_zero, List.set_cons_succ]
      refine wpAnyH_take (i := 9) (oi := ⟨some 29, _, _, _, _, _⟩) (v := ?_) rfl (by kernel_rfl) (by kernel_rfl) (by kernel_rfl) (fun _ _ _ h => h) (Or.inl ⟨by rfl, ?_⟩) hHeld ?_
      rotate_left
      · intro w hSw
        obtain ⟨k0, k2⟩ := HL.out w hSw
        go_simp
        try with_reducible rfl
      try simp only [Act.put, List.setIfInBounds_toArray, List.set_cons_zero, List.set_cons_succ]
      refine wpAnyH_take (i := 10) (oi := ⟨some 30, _, _, _, _, _⟩) (v := ?_) rfl (by kernel_rfl) (by kernel_rfl) (by kernel_rfl) (fun _ _ _ h => h) (Or.inl ⟨by rfl, ?_⟩) hHeld ?_
      rotate_left
      · intro w hSw
        go_simp
        try with_reducible rfl
      try simp only [Act.put, List.setIfInBounds_toArray, List.set_cons_zero, List.set_cons_succ]
      refine wpAnyH_take (i := 11) (oi := ⟨some 31, _, _, _, _, _⟩) (v := ?_) rfl (by kernel_rfl) (by kernel_rfl) (by kernel_rfl) (fun _ _ _ h => h) (Or.inl ⟨by rfl, ?_⟩) hHeld ?_
      rotate_left
      · intro w hSw
        go_simp
        try with_reducible rfl
      try simp only [Act.put, List.setIfInBounds_toArray, List.set_cons_zero, List.set_cons_succ]
      refine wpAnyH_take (i := 12) (oi := ⟨some 32, _, _, _, _, _⟩) (v := ?_) rfl (by kernel_rfl) (by kernel_rfl) (by kernel_rfl) (fun _ _ _ h => h) (Or.inl ⟨by rfl, ?_⟩) hHeld ?_
      rotate_left
      · intro w hSw
        go_simp
        try with_reducible rfl
      try simp only [Act.put, List.setIfInBounds_toArray, List.set_cons_zero, List.set_cons_succ]
      refine wpAnyH_take (i := 13) (oi := ⟨some 33, _, _, _, _, _⟩) (v := ?_) rfl (by kernel_rfl) (by kernel_rfl) (by kernel_rfl) (fun _ _ _ h => h) (Or.inl ⟨by rfl, ?_⟩) hHeld ?_
      rotate_left
      · intro w hSw
        go_simp
        try with_reducible rfl
      try simp only [Act.put, List.setIfInBounds_toArray, List.set_cons_zero, List.set_cons_succ]
      refine wpAnyH_ready (rs := [14]) (by kernel_rfl) (by simp) ?_
      refine AllReadyH.cons rfl (fun K hK => ?_) AllReadyH.nil
      go_simp
      go_wp2_with (go_at_call 140; go_must (refine (CF.out).mono ?_; rintro e w14 ⟨rfl, hB, h2⟩))
      refine hK.out _ _ (hHeld.trans h2) (fun hHeld => ?_)
      clear hK K
      refine wpAnyH_done (by kernel_rfl) ?_ _
      have HF := Lib.hid (show BlAt w14 pb b (l.set k (touchB tg hd up dn now x)) 1 bn tg hd up dn ∧ Two b b w w14 from ⟨hB, hHeld⟩)
      clear hB h2 hHeld
      go_wp2
      go_roundw
      case rel => exact ⟨1, by omega, by go_num, fun h => absurd h (by omega), fun _ => HF.out⟩
      case measure => simp [intOf]
    · have HF := Lib.hid (h1 rfl)
      clear h0 h1
      go_wp2
      go_ret
      exact ⟨rfl, HF.out⟩
set_option maxRecDepth 100000 in
theorem each_mark (pb b g c k bn mb : Nat) (l : List Bin) (x : Bin) (tg hd up dn : Int) (w : World) (h : BlAt w pb b l 1 bn tg hd up dn) (hk : w.cell? ⟨g, 0, none⟩ = some (.int .i64 (k : Nat))) (hkn : k < bn) (hbn : bn ≤ 64) (hx : l[k]? = some x) (ho : BinOk x) (hm : w.heap[mb]? = some (.cells #[.int .i64 65536] 3 (0, 0))) (nmb : pb ≠ mb) (nbm : b ≠ mb) :
    Calls Tryz.prog 139 #[.pointer (some ⟨pb, 0, none⟩), .slice (some ⟨g, 0, none⟩) 1 c, .func (.func 141) #[] #[.pointer (some ⟨mb, 0, none⟩)]] w fun e w' => e = .returned (.bool true) ∧ (w'.heap[mb]? = some (.cells #[.int .i64 x.p] 3 (0, 0)) ∧ Two mb mb w w') := by
  have C0 := Lib.hid (blue_flows pb b g c k bn l tg hd up dn w h hk hkn)
  have hll : l.length = bn := by rw [h.len]; omega
  obtain ⟨c0, _, c2, _⟩ := h.cells
  rw [hll] at c0
  have hne := h.ne
  have CF := Lib.hid (mark_fn b mb k 65536 x.p w.drew (h.bin hx).2.2.1 (cells_of_row (w := w.drew) hm 0 _ rfl) (frozen_of_row _ _ _ _ _ (show w.drew.heap[mb]? = _ from hm)) ho.2.2.2)
  have HM := Lib.hid hm
  clear hx ho hm
  have hptr := h.ptr
  rw [hll] at hptr
  have HL : Hid (∀ w', Two b mb w w' → w'.cell? ⟨pb, 0, none⟩ = some (.slice (some ⟨b, 0, none⟩) bn bn) ∧ w'.cell? ⟨pb, 2, none⟩ = some (.int .i64 (bn : Nat))) := Lib.hid fun w' q => by
    have a1 := (q.block pb (Array.getElem?_eq_some_iff.1 hptr).1 hne nmb).trans hptr
    exact ⟨cells_of_row a1 0 _ rfl, cells_of_row a1 2 _ rfl⟩
  have HH := Lib.hid h
  clear h hptr
  have hkI : (k : Int) < (bn : Int) := by omega
  have hz1 : IntKind.i64.wrap (0 * (bn : Int)) = 0 := by rw [Int.zero_mul]; rfl
  have hz2 : IntKind.i64.wrap (0 + (k : Int)) = (k : Int) := by rw [Int.zero_add]; exact IntWalk.i64_in _ (by omega)
  have hz0 : IntKind.i64.wrap 0 = 0 := rfl
  have hz3 : IntKind.i64.wrap (k : Int) = (k : Int) := IntWalk.i64_in _ (by omega)
  have hz4 : (0 : Int) ≤ (k : Int) := by omega
  go_enter Tryz.func139, Tryz.ntmps139
  go_wp2_with fail
  refine C0.out.mono ?_
  rintro e w1 ⟨rfl, hw1⟩
  replace hw1 := hw1.symm
  subst hw1
  go_wp2_with fail
  go_loopw [15] (fun t wr => ∃ i : Nat, i ≤ 1 ∧ t = .int .i64 (i : Nat) ∧ (i = 0 → w = wr) ∧ (i = 1 → (wr.heap[mb]? = some (.cells #[.int .i64 x.p] 3 (0, 0)) ∧ Two mb mb w wr))) (fun t _ => 1 - (intOf t).toNat)
  case atStart => exact ⟨0, by omega, rfl, fun _ => rfl, fun h => absurd h (by omega)⟩
  case round =>
    obtain ⟨i, hi, rfl, h0, h1⟩ := hrel
    rcases (show i = 0 ∨ i = 1 by omega) with rfl | rfl
    · obtain rfl := h0 rfl
      clear h0 h1
      go_wp2_with fail
      refine wp_region_held_drew (S := Two b mb w) (by kernel_rfl) ((Two.refl _ _ w).drewN 1) (fun hHeld => ?_)
      refine wpAnyH_take (i := 0) (oi := ⟨some 20, _, _, _, _, _⟩) (v := ?_) rfl (by kernel_rfl) (by kernel_rfl) (by kernel_rfl) (fun _ _ _ h => h) (Or.inl ⟨by rfl, ?_⟩) hHeld ?_
      rotate_left
      · intro w hSw
        go_simp
        try with_reducible rfl
      try simp only [Act.put, List.setIfInBounds_toArray, List.set_cons_zero, List.set_cons_succ]
      refine wpAnyH_take (i := 1) (oi := ⟨some 21, _, _, _, _, _⟩) (v := ?_) rfl (by kernel_rfl) (by kernel_rfl) (by kernel_rfl) (fun _ _ _ h => h) (Or.inl ⟨by rfl, ?_⟩) hHeld ?_
      rotate_left
      · intro w hSw
        go_simp
        try with_reducible rfl
      try simp only [Act.put, List.setIfInBounds_toArray, List.set_cons_zero, List.set_cons_succ]
      refine wpAnyH_take (i := 2) (oi := ⟨some 22, _, _, _, _, _⟩) (v := ?_) rfl (by kernel_rfl) (by kernel_rfl) (by kernel_rfl) (fun _ _ _ h => h) (Or.inl ⟨by rfl, ?_⟩) hHeld ?_
      rotate_left
      · intro w hSw
        go_simp
        try with_reducible rfl
      try simp only [Act.put, List.setIfInBounds_toArray, List.set_cons_zero, List.set_cons_succ]
      refine wpAnyH_take (i := 3) (oi := ⟨some 23, _, _, _, _, _⟩) (v := ?_) rfl (by kernel_rfl) (by kernel_rfl) (by kernel_rfl) (fun _ _ _ h => h) (Or.inl ⟨by rfl, ?_⟩) hHeld ?_
      rotate_left
      · intro w hSw
        go_simp
        try with_reducible rfl
      try simp only [Act.put, List.setIfInBounds_toArray, List.set_cons_zero, List.set_cons_succ]
      refine wpAnyH_take (i := 4) (oi := ⟨some 24, _, _, _, _, _⟩) (v := ?_) rfl (by kernel_rfl) (by kernel_rfl) (by kernel_rfl) (fun _ _ _ h => h) (Or.inl ⟨by rfl, ?_⟩) hHeld ?_
      rotate_left
      · intro w hSw
        obtain ⟨k0, k2⟩ := HL.out w hSw
        go_simp
        try with_reducible rfl
      try simp only [Act.put, List.setIfInBounds_toArray, List.set_cons_zero, List.set_cons_succ]
      refine wpAnyH_take (i := 5) (oi := ⟨some 25, _, _, _, _, _⟩) (v := ?_) rfl (by kernel_rfl) (by kernel_rfl) (by kernel_rfl) (fun _ _ _ h => h) (Or.inl ⟨by rfl, ?_⟩) hHeld ?_
      rotate_left
      · intro w hSw
        go_simp
        try with_reducible rfl
      try simp only [Act.put, List.setIfInBounds_toArray, List.set_cons_zero, List.set_cons_succ]
      refine wpAnyH_take (i := 6) (oi := ⟨some 26, _, _, _, _, _⟩) (v := ?_) rfl (by kernel_rfl) (by kernel_rfl) (by kernel_rfl) (fun _ _ _ h => h) (Or.inl ⟨by rfl, ?_⟩) hHeld ?_
      rotate_left
      · intro w hSw
        go_simp
        try with_reducible rfl
      try simp only [Act.put, List.setIfInBounds_toArray, List.set_cons_zero, List.set_cons_succ]
      refine wpAnyH_take (i := 7) (oi := ⟨some 27, _, _, _, _, _⟩) (v := ?_) rfl (by kernel_rfl) (by kernel_rfl) (by kernel_rfl) (fun _ _ _ h => h) (Or.inl ⟨by rfl, ?_⟩) hHeld ?_
      rotate_left
      · intro w hSw
        go_simp
        try with_reducible rfl
      try simp only [Act.put, List.setIfInBounds_toArray, List.set_cons_zero, List.set_cons_succ]
      refine wpAnyH_take (i := 8) (oi := ⟨some 28, _, _, _, _, _⟩) (v := ?_) rfl (by kernel_rfl) (by kernel_rfl) (by kernel_rfl) (fun _ _ _ h => h) (Or.inl ⟨by rfl, ?_⟩) hHeld ?_
      rotate_left
      · intro w hSw
        go_simp
        try with_reducible rfl
      try simp only [Act.put, List.setIfInBounds_toArray, List.set_cons_zero, List.set_cons_succ]
      refine wpAnyH_take (i := 9) (oi := ⟨some 29, _, _, _, _, _⟩) (v := ?_) rfl (by kernel_rfl) (by kernel_rfl) (by kernel_rfl) (fun _ _ _ h => h) (Or.inl ⟨by rfl, ?_⟩) hHeld ?_
      rotate_left
      · intro w hSw
        obtain ⟨k0, k2⟩ := HL.out w hSw
        go_simp
        try with_reducible rfl
      try simp only [Act.put, List.setIfInBounds_toArray, List.set_cons_zero, List.set_cons_succ]
      refine wpAnyH_take (i := 10) (oi := ⟨some 30, _, _, _, _, _⟩) (v := ?_) rfl (by kernel_rfl) (by kernel_rfl) (by kernel_rfl) (fun _ _ _ h => h) (Or.inl ⟨by rfl, ?_⟩) hHeld ?_
      rotate_left
      · intro w hSw
        go_simp
        try with_reducible rfl
      try simp only [Act.put, List.setIfInBounds_toArray, List.set_cons_zero, List.set_cons_succ]
      refine wpAnyH_take (i := 11) (oi := ⟨some 31, _, _, _, _, _⟩) (v := ?_) rfl (by kernel_rfl) (by kernel_rfl) (by kernel_rfl) (fun _ _ _ h => h) (Or.inl ⟨by rfl, ?_⟩) hHeld ?_
      rotate_left
      · intro w hSw
        go_simp
        try with_reducible rfl
      try simp only [Act.put, List.setIfInBounds_toArray, List.set_cons_zero, List.set_cons_succ]
      refine wpAnyH_take (i := 12) (oi := ⟨some 32, _, _, _, _, _⟩) (v := ?_) rfl (by kernel_rfl) (by kernel_rfl) (by kernel_rfl) (fun _ _ _ h => h) (Or.inl ⟨by rfl, ?_⟩) hHeld ?_
      rotate_left
      · intro w hSw
        go_simp
        try with_reducible rfl
      try simp only [Act.put, List.setIfInBounds_toArray, List.set_cons_zero, List.set_cons_succ]
      refine wpAnyH_take (i := 13) (oi := ⟨some 33, _, _, _, _, _⟩) (v := ?_) rfl (by kernel_rfl) (by kernel_rfl) (by kernel_rfl) (fun _ _ _ h => h) (Or.inl ⟨by rfl, ?_⟩) hHeld ?_
      rotate_left
      · intro w hSw
        go_simp
        try with_reducible rfl
      try simp only [Act.put, List.setIfInBounds_toArray, List.set_cons_zero, List.set_cons_succ]
      refine wpAnyH_ready (rs := [14]) (by kernel_rfl) (by simp) ?_
      refine AllReadyH.cons rfl (fun K hK => ?_) AllReadyH.nil
      go_simp
      go_wp2_with (go_at_call 141; go_must (refine (CF.out).mono ?_; rintro e w14 ⟨rfl, rfl⟩))
      refine hK.out _ _ (hHeld.trans (((Two.refl _ _ _).setCell (x := ⟨mb, 0, none⟩) (.inr rfl) _).drewN 1)) (fun hHeld => ?_)
      clear hK K
      refine wpAnyH_done (by kernel_rfl) ?_ _
      have HF := Lib.hid (show ((w.setCell ⟨mb, 0, none⟩ (.int .i64 x.p)).drew.drew).heap[mb]? = some (.cells #[.int .i64 x.p] 3 (0, 0)) ∧ Two mb mb w (w.setCell ⟨mb, 0, none⟩ (.int .i64 x.p)).drew.drew from ⟨heap_setCell_same w mb 0 _ _ _ HM.out, (((Two.refl mb mb w)).setCell (x := ⟨mb, 0, none⟩) (.inl rfl) _).drewN 2⟩)
      clear hHeld
      go_wp2
      go_roundw
      case rel => exact ⟨1, by omega, by go_num, fun h => absurd h (by omega), fun _ => HF.out⟩
      case measure => simp [intOf]
    · have HF := Lib.hid (h1 rfl)
      clear h0 h1
      go_wp2
      go_ret
      exact ⟨rfl, HF.out⟩
set_option maxRecDepth 100000 in
theorem each_put (pb b g c k bn nb : Nat) (l : List Bin) (x : Bin) (tg hd up dn n : Int) (w : World) (h : BlAt w pb b l 1 bn tg hd up dn) (hk : w.cell? ⟨g, 0, none⟩ = some (.int .i64 (k : Nat))) (hkn : k < bn) (hbn : bn ≤ 64) (hx : l[k]? = some x) (hn : w.cell? ⟨nb, 0, none⟩ = some (.int .i64 n)) (nnb : nb ≠ b) :
    Calls Tryz.prog 139 #[.pointer (some ⟨pb, 0, none⟩), .slice (some ⟨g, 0, none⟩) 1 c, .func (.func 155) #[] #[.pointer (some ⟨nb, 0, none⟩)]] w fun e w' => e = .returned (.bool true) ∧ (BlAt w' pb b (l.set k ⟨addC x.bytes n, x.changed, x.p⟩) 1 bn tg hd up dn ∧ Two b b w w') := by
  have C0 := Lib.hid (blue_flows pb b g c k bn l tg hd up dn w h hk hkn)
  have hll : l.length = bn := by rw [h.len]; omega
  obtain ⟨c0, _, c2, _⟩ := h.cells
  rw [hll] at c0
  have hne := h.ne
  have CF := Lib.hid (put_fn b nb k x.bytes n w.drew (h.bin hx).1 ((h.bin hx).2.2.2 _) hn nnb)
  have HX := Lib.hid hx
  clear hx hn
  have hptr := h.ptr
  rw [hll] at hptr
  have HL : Hid (∀ w', Two b b w w' → w'.cell? ⟨pb, 0, none⟩ = some (.slice (some ⟨b, 0, none⟩) bn bn) ∧ w'.cell? ⟨pb, 2, none⟩ = some (.int .i64 (bn : Nat))) := Lib.hid fun w' q => by
    have a1 := (q.block pb (Array.getElem?_eq_some_iff.1 hptr).1 hne hne).trans hptr
    exact ⟨cells_of_row a1 0 _ rfl, cells_of_row a1 2 _ rfl⟩
  have HH := Lib.hid h
  clear h hptr
  have hkI : (k : Int) < (bn : Int) := by omega
  have hz1 : IntKind.i64.wrap (0 * (bn : Int)) = 0 := by rw [Int.zero_mul]; rfl
  have hz2 : IntKind.i64.wrap (0 + (k : Int)) = (k : Int) := by rw [Int.zero_add]; exact IntWalk.i64_in _ (by omega)
  have hz0 : IntKind.i64.wrap 0 = 0 := rfl
  have hz3 : IntKind.i64.wrap (k : Int) = (k : Int) := IntWalk.i64_in _ (by omega)
  have hz4 : (0 : Int) ≤ (k : Int) := by omega
  go_enter Tryz.func139, Tryz.ntmps139
  go_wp2_with fail
  refine C0.out.mono ?_
  rintro e w1 ⟨rfl, hw1⟩
  replace hw1 := hw1.symm
  subst hw1
  go_wp2_with fail
  go_loopw [15] (fun t wr => ∃ i : Nat, i ≤ 1 ∧ t = .int .i64 (i : Nat) ∧ (i = 0 → w = wr) ∧ (i = 1 → (BlAt wr pb b (l.set k ⟨addC x.bytes n, x.changed, x.p⟩) 1 bn tg hd up dn ∧ Two b b w wr))) (fun t _ => 1 - (intOf t).toNat)
  case atStart => exact ⟨0, by omega, rfl, fun _ => rfl, fun h => absurd h (by omega)⟩
  case round =>
    obtain ⟨i, hi, rfl, h0, h1⟩ := hrel
    rcases (show i = 0 ∨ i = 1 by omega) with rfl | rfl
    · obtain rfl := h0 rfl
      clear h0 h1
      go_wp2_with fail
      refine wp_region_held_drew (S := Two b b w) (by kernel_rfl) ((Two.refl _ _ w).drewN 1) (fun hHeld => ?_)
      refine wpAnyH_take (i := 0) (oi := ⟨some 20, _, _, _, _, _⟩) (v := ?_) rfl (by kernel_rfl) (by kernel_rfl) (by kernel_rfl) (fun _ _ _ h => h) (Or.inl ⟨by rfl, ?_⟩) hHeld ?_
      rotate_left
      · intro w hSw
        go_simp
        try with_reducible rfl
      try simp only [Act.put, List.setIfInBounds_toArray, List.set_cons_zero, List.set_cons_succ]
      refine wpAnyH_take (i := 1) (oi := ⟨some 21, _, _, _, _, _⟩) (v := ?_) rfl (by kernel_rfl) (by kernel_rfl) (by kernel_rfl) (fun _ _ _ h => h) (Or.inl ⟨by rfl, ?_⟩) hHeld ?_
      rotate_left
      · intro w hSw
        go_simp
        try with_reducible rfl
      try simp only [Act.put, List.setIfInBounds_toArray, List.set_cons_zero, List.set_cons_succ]
      refine wpAnyH_take (i := 2) (oi := ⟨some 22, _, _, _, _, _⟩) (v := ?_) rfl (by kernel_rfl) (by kernel_rfl) (by kernel_rfl) (fun _ _ _ h => h) (Or.inl ⟨by rfl, ?_⟩) hHeld ?_
      rotate_left
      · intro w hSw
        go_simp
        try with_reducible rfl
      try simp only [Act.put, List.setIfInBounds_toArray, List.set_cons_zero, List.set_cons_succ]
      refine wpAnyH_take (i := 3) (oi := ⟨some 23, _, _, _, _, _⟩) (v := ?_) rfl (by kernel_rfl) (by kernel_rfl) (by kernel_rfl) (fun _ _ _ h => h) (Or.inl ⟨by rfl, ?_⟩) hHeld ?_
      rotate_left
      · intro w hSw
        go_simp
        try with_reducible rfl
      try simp only [Act.put, List.setIfInBounds_toArray, List.set_cons_zero, List.set_cons_succ]
      refine wpAnyH_take (i := 4) (oi := ⟨some 24, _, _, _, _, _⟩) (v := ?_) rfl (by kernel_rfl) (by kernel_rfl) (by kernel_rfl) (fun _ _ _ h => h) (Or.inl ⟨by rfl, ?_⟩) hHeld ?_
      rotate_left
      · intro w hSw
        obtain ⟨k0, k2⟩ := HL.out w hSw
        go_simp
        try with_reducible rfl
      try simp only [Act.put, List.setIfInBounds_toArray, List.set_cons_zero, List.set_cons_succ]
      refine wpAnyH_take (i := 5) (oi := ⟨some 25, _, _, _, _, _⟩) (v := ?_) rfl (by kernel_rfl) (by kernel_rfl) (by kernel_rfl) (fun _ _ _ h => h) (Or.inl ⟨by rfl, ?_⟩) hHeld ?_
      rotate_left
      · intro w hSw
        go_simp
        try with_reducible rfl
      try simp only [Act.put, List.setIfInBounds_toArray, List.set_cons_zero, List.set_cons_succ]
      refine wpAnyH_take (i := 6) (oi := ⟨some 26, _, _, _, _, _⟩) (v := ?_) rfl (by kernel_rfl) (by kernel_rfl) (by kernel_rfl) (fun _ _ _ h => h) (Or.inl ⟨by rfl, ?_⟩) hHeld ?_
      rotate_left
      · intro w hSw
        go_simp
        try with_reducible rfl
      try simp only [Act.put, List.setIfInBounds_toArray, List.set_cons_zero, List.set_cons_succ]
      refine wpAnyH_take (i := 7) (oi := ⟨some 27, _, _, _, _, _⟩) (v := ?_) rfl (by kernel_rfl) (by kernel_rfl) (by kernel_rfl) (fun _ _ _ h => h) (Or.inl ⟨by rfl, ?_⟩) hHeld ?_
      rotate_left
      · intro w hSw
        go_simp
        try with_reducible rfl
      try simp only [Act.put, List.setIfInBounds_toArray, List.set_cons_zero, List.set_cons_succ]
      refine wpAnyH_take (i := 8) (oi := ⟨some 28, _, _, _, _, _⟩) (v := ?_) rfl (by kernel_rfl) (by kernel_rfl) (by kernel_rfl) (fun _ _ _ h => h) (Or.inl ⟨by rfl, ?_⟩) hHeld ?_
      rotate_left
      · intro w hSw
        go_simp
        try with_reducible rfl
      try simp only [Act.put, List.setIfInBounds_toArray, List.set_cons_zero, List.set_cons_succ]
      refine wpAnyH_take (i := 9) (oi := ⟨some 29, _, _, _, _, _⟩) (v := ?_) rfl (by kernel_rfl) (by kernel_rfl) (by kernel_rfl) (fun _ _ _ h => h) (Or.inl ⟨by rfl, ?_⟩) hHeld ?_
      rotate_left
      · intro w hSw
        obtain ⟨k0, k2⟩ := HL.out w hSw
        go_simp
        try with_reducible rfl
      try simp only [Act.put, List.setIfInBounds_toArray, List.set_cons_zero, List.set_cons_succ]
      refine wpAnyH_take (i := 10) (oi := ⟨some 30, _, _, _, _, _⟩) (v := ?_) rfl (by kernel_rfl) (by kernel_rfl) (by kernel_rfl) (fun _ _ _ h => h) (Or.inl ⟨by rfl, ?_⟩) hHeld ?_
      rotate_left
      · intro w hSw
        go_simp
        try with_reducible rfl
      try simp only [Act.put, List.setIfInBounds_toArray, List.set_cons_zero, List.set_cons_succ]
      refine wpAnyH_take (i := 11) (oi := ⟨some 31, _, _, _, _, _⟩) (v := ?_) rfl (by kernel_rfl) (by kernel_rfl) (by kernel_rfl) (fun _ _ _ h => h) (Or.inl ⟨by rfl, ?_⟩) hHeld ?_
      rotate_left
      · intro w hSw
        go_simp
        try with_reducible rfl
      try simp only [Act.put, List.setIfInBounds_toArray, List.set_cons_zero, List.set_cons_succ]
      refine wpAnyH_take (i := 12) (oi := ⟨some 32, _, _, _, _, _⟩) (v := ?_) rfl (by kernel_rfl) (by kernel_rfl) (by kernel_rfl) (fun _ _ _ h => h) (Or.inl ⟨by rfl, ?_⟩) hHeld ?_
      rotate_left
      · intro w hSw
        go_simp
        try with_reducible rfl
      try simp only [Act.put, List.setIfInBounds_toArray, List.set_cons_zero, List.set_cons_succ]
      refine wpAnyH_take (i := 13) (oi := ⟨some 33, _, _, _, _, _⟩) (v := ?_) rfl (by kernel_rfl) (by kernel_rfl) (by kernel_rfl) (fun _ _ _ h => h) (Or.inl ⟨by rfl, ?_⟩) hHeld ?_
      rotate_left
      · intro w hSw
        go_simp
        try with_reducible rfl
      try simp only [Act.put, List.setIfInBounds_toArray, List.set_cons_zero, List.set_cons_succ]
      refine wpAnyH_ready (rs := [14]) (by kernel_rfl) (by simp) ?_
      refine AllReadyH.cons rfl (fun K hK => ?_) AllReadyH.nil
      go_simp
      go_wp2_with (go_at_call 155; go_must (refine (CF.out).mono ?_; rintro e w14 ⟨rfl, hB⟩))
      refine hK.out _ _ ((hHeld.setCell (x := ⟨b, k * 3, none⟩) (.inl rfl) _).trans (two_ofB (by simpa [World.setCell] using hB))) (fun hHeld => ?_)
      clear hK K
      refine wpAnyH_done (by kernel_rfl) ?_ _
      have hbl : BlAt w14 pb b (l.set k ⟨addC x.bytes n, x.changed, x.p⟩) 1 bn tg hd up dn := (HH.out.drew.setF HX.out 0 (.int .i64 (addC x.bytes n)) ⟨addC x.bytes n, x.changed, x.p⟩ (by omega) rfl).below (by simpa [World.setCell] using hB)
      have HF := Lib.hid (show BlAt w14 pb b (l.set k ⟨addC x.bytes n, x.changed, x.p⟩) 1 bn tg hd up dn ∧ Two b b w w14 from ⟨hbl, hHeld⟩)
      clear hB hbl hHeld
      go_wp2
      go_roundw
      case rel => exact ⟨1, by omega, by go_num, fun h => absurd h (by omega), fun _ => HF.out⟩
      case measure => simp [intOf]
    · have HF := Lib.hid (h1 rfl)
      clear h0 h1
      go_wp2
      go_ret
      exact ⟨rfl, HF.out⟩
set_option maxRecDepth 100000 in
theorem blue_touch (pb b g c k bn : Nat) (l : List Bin) (x : Bin) (tg hd up dn now : Int) (w : World) (h : BlAt w pb b l 1 bn tg hd up dn) (hk : w.cell? ⟨g, 0, none⟩ = some (.int .i64 (k : Nat))) (hkn : k < bn) (hbn : bn ≤ 64) (hx : l[k]? = some x) (ho : BinOk x) (hnow : 0 ≤ now ∧ now ≤ 4611686018427387903) (hup : 0 ≤ up ∧ up ≤ 65536) (hdn : 0 ≤ dn ∧ dn ≤ 65536) :
    Calls Tryz.prog 81 #[.pointer (some ⟨pb, 0, none⟩), .slice (some ⟨g, 0, none⟩) 1 c, .int .i64 now] w fun e w' => e = .returned (.bool true) ∧ BlAt w' pb b (l.set k (touchB tg hd up dn now x)) 1 bn tg hd up dn ∧ Two b b w w' := by
  have hgb := World.block_lt_of_cell? w _ hk
  simp only at hgb
  have hbb : b < w.heap.size := (Array.getElem?_eq_some_iff.1 h.row).1
  have qa : Below w.heap.size w ((w.alloc (.cells #[.pointer (some ⟨pb, 0, none⟩)] 137)).alloc (.cells #[.int .i64 now] 2)) := ((Below.refl _ _).alloc (Nat.le_refl _) _).alloc (by simp) _
  have C := Lib.hid (each_touch pb b g c k bn (w.heap.size + 1) w.heap.size l x tg hd up dn now ((w.alloc (.cells #[.pointer (some ⟨pb, 0, none⟩)] 137)).alloc (.cells #[.int .i64 now] 2)) (h.below qa) (by rw [qa.cell (p := ⟨g, 0, none⟩) hgb]; exact hk) hkn hbn hx ho (by have := Go.heap_alloc_new (w.alloc (.cells #[.pointer (some ⟨pb, 0, none⟩)] 137)) (.cells #[.int .i64 now] 2); rw [World.size_alloc] at this; exact cells_of_row this 0 _ rfl) (by
    have h1 := Go.heap_alloc_new w (.cells #[.pointer (some ⟨pb, 0, none⟩)] 137)
    exact cells_of_row (keep_block ((Below.refl _ _).alloc (Nat.le_refl _) _) h1) 0 _ rfl) (by omega) (by omega) hnow hup hdn)
  have T0 := Lib.hid (two_ofB (x := b) (y := b) qa)
  clear h hk hx ho qa
  go_enter Tryz.func81, Tryz.ntmps81
  go_wp2_with fail
  refine C.out.mono ?_
  rintro e w2 ⟨rfl, hB, h2⟩
  have HB := Lib.hid hB
  have H2 := Lib.hid (T0.out.trans h2)
  clear hB h2 C
  go_wp2
  go_ret
  exact ⟨rfl, HB.out, H2.out⟩
set_option maxRecDepth 100000 in
theorem blue_mark (pb b g c k bn : Nat) (l : List Bin) (x : Bin) (tg hd up dn : Int) (w : World) (h : BlAt w pb b l 1 bn tg hd up dn) (hk : w.cell? ⟨g, 0, none⟩ = some (.int .i64 (k : Nat))) (hkn : k < bn) (hbn : bn ≤ 64) (hx : l[k]? = some x) (ho : BinOk x) :
    Calls Tryz.prog 82 #[.pointer (some ⟨pb, 0, none⟩), .slice (some ⟨g, 0, none⟩) 1 c] w fun e w' => e = .returned (.int .i64 x.p) ∧ Below w.heap.size w w' := by
  have hgb := World.block_lt_of_cell? w _ hk
  simp only at hgb
  have hbb : b < w.heap.size := (Array.getElem?_eq_some_iff.1 h.row).1
  have hpb : pb < w.heap.size := (Array.getElem?_eq_some_iff.1 h.ptr).1
  have qa : Below w.heap.size w (w.alloc (.cells #[.int .i64 65536] 3)) := (Below.refl _ _).alloc (Nat.le_refl _) _
  have hm : (w.alloc (.cells #[.int .i64 65536] 3)).heap[w.heap.size]? = some (.cells #[.int .i64 65536] 3 (0, 0)) := Go.heap_alloc_new w _
  have C := Lib.hid (each_mark pb b g c k bn w.heap.size l x tg hd up dn _ (h.below qa) (by rw [qa.cell (p := ⟨g, 0, none⟩) hgb]; exact hk) hkn hbn hx ho hm (by omega) (by omega))
  have QA := Lib.hid qa
  clear h hk hx ho qa hm
  go_enter Tryz.func82, Tryz.ntmps82
  go_wp2_with fail
  refine C.out.mono ?_
  rintro e w2 ⟨rfl, hB, h2⟩
  have HB := Lib.hid (two_below QA.out h2 (Nat.le_refl _) QA.out.size)
  have k2 := cells_of_row hB 0 _ rfl
  clear hB h2 C
  go_wp2
  go_ret
  exact ⟨rfl, HB.out⟩
set_option maxRecDepth 100000 in
theorem blue_put (pb b g c k bn : Nat) (l : List Bin) (x : Bin) (tg hd up dn n : Int) (w : World) (h : BlAt w pb b l 1 bn tg hd up dn) (hk : w.cell? ⟨g, 0, none⟩ = some (.int .i64 (k : Nat))) (hkn : k < bn) (hbn : bn ≤ 64) (hx : l[k]? = some x) (hn : 0 ≤ n ∧ n ≤ 1073741824) :
    Calls Tryz.prog 101 #[.pointer (some ⟨pb, 0, none⟩), .slice (some ⟨g, 0, none⟩) 1 c, .int .i64 n] w fun e w' => e = .returned (.bool true) ∧ BlAt w' pb b (l.set k ⟨addC x.bytes n, x.changed, x.p⟩) 1 bn tg hd up dn ∧ Two b b w w' := by
  have hgb := World.block_lt_of_cell? w _ hk
  simp only at hgb
  have hbb : b < w.heap.size := (Array.getElem?_eq_some_iff.1 h.row).1
  have qa : Below w.heap.size w (w.alloc (.cells #[.int .i64 n] 2)) := (Below.refl _ _).alloc (Nat.le_refl _) _
  have C := Lib.hid (each_put pb b g c k bn w.heap.size l x tg hd up dn n (w.alloc (.cells #[.int .i64 n] 2)) (h.below qa) (by rw [qa.cell (p := ⟨g, 0, none⟩) hgb]; exact hk) hkn hbn hx (cells_of_row (Go.heap_alloc_new w _) 0 _ rfl) (by omega))
  have T0 := Lib.hid (two_ofB (x := b) (y := b) qa)
  obtain ⟨n0, n1⟩ := hn
  clear h hk hx qa
  go_enter Tryz.func101, Tryz.ntmps101
  go_wp2_with fail
  refine C.out.mono ?_
  rintro e w2 ⟨rfl, hB, h2⟩
  have HB := Lib.hid hB
  have H2 := Lib.hid (T0.out.trans h2)
  clear hB h2 C
  go_wp2
  go_ret
  exact ⟨rfl, HB.out, H2.out⟩
end Go.Proofs.YtpanmfdbdgecaaaGreat.C

namespace Go.Proofs.YtpanmfdbdgecaaaGreat.C
open Go.RowKit
set_option linter.unusedVariables false
set_option maxRecDepth 100000 in
theorem store_bytes (a : Adr) (c R : Nat) (L : List (List (Array Value))) (l : List (Array Value)) (w : World) (h : Sto w a L R) (hl : L[c]? = some l) :
    Calls Tryz.prog 76 #[.pointer (some ⟨a.sb, 0, none⟩), .int .i64 (c : Nat)] w fun e w' => e = .returned (.int .i64 (sumL l)) ∧ w' = w := by
  obtain ⟨_, _, _, hS⟩ := h
  have hlen := hS.len.1
  have hc := lt_of_some hl
  have k2 := hS.c2
  have kb := hS.byte hl
  have C := Lib.hid (has_st a (c : Nat) L.length w k2 (by omega))
  rw [decide_eq_true (show (0 : Int) ≤ (c : Nat) ∧ ((c : Nat) : Int) < (L.length : Nat) by omega)] at C
  have hcI : (c : Int) < (L.length : Int) := by omega
  clear hS
  go_enter Tryz.func76, Tryz.ntmps76
  go_wp2_with fail
  refine C.out.mono ?_
  rintro e w1 ⟨rfl, hw1⟩
  replace hw1 := hw1.symm
  subst hw1
  go_wp2
  go_ret
  exact ⟨rfl, rfl⟩
/-- A packet's flow. -/
def PkF (x fl : Array Value) : Prop := x.extract 1 (1 + 36) = fl
theorem PkF.seq {x fl : Array Value} (h : PkF x fl) (a : Int) : PkF (seqX x a) fl := by
  unfold PkF at h ⊢
  rw [← h]
  apply Array.ext_getElem?
  intro i
  rw [Array.getElem?_extract, Array.getElem?_extract, seqX, Array.size_setIfInBounds]
  split
  · rw [Array.getElem?_setIfInBounds_ne (by omega)]
  · rfl
theorem PkF.load {x fl : Array Value} (h : PkF x fl) (hf : fl.size = 36) {w : World} {b : Nat} {t : TypeId} (hb : w.heap[b]? = some (.cells x t (0, 0))) : (Instr.loadAt 58 (.pointer (some ⟨b, 1, none⟩))).run Tryz.prog w = .ok (.agg fl) w :=
  box_load_mid (t := 58) hb (of_extract h) _ Tryz.underlying58 rfl (by rw [hf]; exact flow_info)
section
variable {w : World} {A : PAd} {F : PCf} {S : PSt}
/-- One level of bins; what a flow's key is. -/
structure Lv1 (F : PCf) (K : Nat → Nat) : Prop where
  lv : F.c 2 = 1
  key : Key16 F.kv K
set_option maxRecDepth 100000 in
theorem police_bins (K FK : Nat → Nat) (fl : Array Value) (h : Pol w A F S) (hv : Lv1 F K) (hf : KeyOf fl FK) :
    Calls Tryz.prog 80 #[.pointer (some ⟨A.pb, 0, none⟩), .int .i64 0, .agg fl] w fun e w' => (∃ v, e = .returned v ∧ BinsR w.heap.size w' v (fallV K FK 1 (F.c 3).toNat)) ∧ Below w.heap.size w w' := by
  have hbn := h.fok.right.bins
  have hm : F.c 3 = ((F.c 3).toNat : Int) := by omega
  have CB := Lib.hid (fun w' (q : Pol w' A F S) => gens_bins A.gb (F.c 0).toNat (F.c 3).toNat F.kv fl F.G K FK w' q.gn hv.key hf (by omega) (by omega))
  have HFS := Lib.hid (show (Tryz.prog.info? 58).map (·.size) = some fl.size by rw [hf.size]; exact flow_info)
  have HH := Lib.hid h
  have HV := Lib.hid hv.lv
  have HM := Lib.hid hm
  clear hf h hv hm hbn
  generalize fallV K FK 1 (F.c 3).toNat = r at *
  go_enter Tryz.func80, Tryz.ntmps80
  go_upto_region 1 with ((with_reducible refine arm_box 5 2 58 fl ?_ ?_); rfl; intro w2 HB2 HX2 HS2)
  have HLD : Hid (∀ w', Below w2.heap.size w2 w' → w'.cell? ⟨A.pb, 20, none⟩ = some (.pointer (some ⟨A.gb, 0, none⟩)) ∧ w'.cell? ⟨A.pb, 2, none⟩ = some (.int .i64 1) ∧ w'.cell? ⟨A.pb, 3, none⟩ = some (.int .i64 ((F.c 3).toNat : Nat)) ∧ (Instr.loadAt 58 (.pointer (some ⟨w.heap.size, 0, none⟩))).run Tryz.prog w' = .ok (.agg fl) w') := Lib.hid fun w' q => by
    have hp := (HH.out.below HB2.out).below q
    refine ⟨hp.c20, ?_, ?_, box_load (t := 58) (keep_block q HX2.out) _ Tryz.underlying58 rfl HFS.out⟩
    · rw [hp.lo 2 (by omega), HV.out]
    · rw [hp.lo 3 (by omega)]
      exact congrArg (fun z => some (Value.int .i64 z)) HM.out
  have CB2 := Lib.hid (fun w' (q : Below w2.heap.size w2 w') => CB.out w' ((HH.out.below HB2.out).below q))
  generalize (F.c 3).toNat = m at *
  go_wp2_with fail
  refine wp_region_held_drew (S := Below w2.heap.size w2) (by kernel_rfl) (Below.refl _ _).drew (fun hHeld => ?_)
  refine wpAnyH_take (i := 0) (oi := ⟨some 7, _, _, _, _, _⟩) (v := ?_) rfl (by kernel_rfl) (by kernel_rfl) (by kernel_rfl) (fun _ _ _ h => h) (Or.inl ⟨by rfl, ?_⟩) hHeld ?_
  rotate_left
  · intro w hSw
    go_simp
    try with_reducible rfl
  try simp only [Act.put, List.setIfInBounds_toArray, List.set_cons_zero, List.set_cons_succ]
  refine wpAnyH_take (i := 1) (oi := ⟨some 8, _, _, _, _, _⟩) (v := ?_) rfl (by kernel_rfl) (by kernel_rfl) (by kernel_rfl) (fun _ _ _ h => h) (Or.inl ⟨by rfl, ?_⟩) hHeld ?_
  rotate_left
  · intro w hSw
    go_simp
    try with_reducible rfl
  try simp only [Act.put, List.setIfInBounds_toArray, List.set_cons_zero, List.set_cons_succ]
  refine wpAnyH_take (i := 2) (oi := ⟨some 9, _, _, _, _, _⟩) (v := ?_) rfl (by kernel_rfl) (by kernel_rfl) (by kernel_rfl) (fun _ _ _ h => h) (Or.inl ⟨by rfl, ?_⟩) hHeld ?_
  rotate_left
  · intro w hSw
    go_simp
    try with_reducible rfl
  try simp only [Act.put, List.setIfInBounds_toArray, List.set_cons_zero, List.set_cons_succ]
  refine wpAnyH_take (i := 3) (oi := ⟨some 10, _, _, _, _, _⟩) (v := ?_) rfl (by kernel_rfl) (by kernel_rfl) (by kernel_rfl) (fun _ _ _ h => h) (Or.inl ⟨by rfl, ?_⟩) hHeld ?_
  rotate_left
  · intro w hSw
    obtain ⟨k0, k1, k2, _⟩ := HLD.out w hSw
    go_simp
    try with_reducible rfl
  try simp only [Act.put, List.setIfInBounds_toArray, List.set_cons_zero, List.set_cons_succ]
  refine wpAnyH_take (i := 4) (oi := ⟨some 11, _, _, _, _, _⟩) (v := ?_) rfl (by kernel_rfl) (by kernel_rfl) (by kernel_rfl) (fun _ _ _ h => h) (Or.inl ⟨by rfl, ?_⟩) hHeld ?_
  rotate_left
  · intro w hSw
    go_simp
    try with_reducible rfl
  try simp only [Act.put, List.setIfInBounds_toArray, List.set_cons_zero, List.set_cons_succ]
  refine wpAnyH_take (i := 5) (oi := ⟨some 12, _, _, _, _, _⟩) (v := .agg fl) rfl (by kernel_rfl) (by kernel_rfl) (by kernel_rfl) (fun _ _ _ h => h) (Or.inl ⟨by rfl, fun w hSw => exec_load rfl (HLD.out w hSw).2.2.2⟩) hHeld ?_
  try simp only [Act.put, List.setIfInBounds_toArray, List.set_cons_zero, List.set_cons_succ]
  refine wpAnyH_take (i := 6) (oi := ⟨some 13, _, _, _, _, _⟩) (v := ?_) rfl (by kernel_rfl) (by kernel_rfl) (by kernel_rfl) (fun _ _ _ h => h) (Or.inl ⟨by rfl, ?_⟩) hHeld ?_
  rotate_left
  · intro w hSw
    go_simp
    try with_reducible rfl
  try simp only [Act.put, List.setIfInBounds_toArray, List.set_cons_zero, List.set_cons_succ]
  refine wpAnyH_take (i := 7) (oi := ⟨some 14, _, _, _, _, _⟩) (v := ?_) rfl (by kernel_rfl) (by kernel_rfl) (by kernel_rfl) (fun _ _ _ h => h) (Or.inl ⟨by rfl, ?_⟩) hHeld ?_
  rotate_left
  · intro w hSw
    go_simp
    try with_reducible rfl
  try simp only [Act.put, List.setIfInBounds_toArray, List.set_cons_zero, List.set_cons_succ]
  refine wpAnyH_take (i := 8) (oi := ⟨some 15, _, _, _, _, _⟩) (v := ?_) rfl (by kernel_rfl) (by kernel_rfl) (by kernel_rfl) (fun _ _ _ h => h) (Or.inl ⟨by rfl, ?_⟩) hHeld ?_
  rotate_left
  · intro w hSw
    go_simp
    try with_reducible rfl
  try simp only [Act.put, List.setIfInBounds_toArray, List.set_cons_zero, List.set_cons_succ]
  refine wpAnyH_take (i := 9) (oi := ⟨some 16, _, _, _, _, _⟩) (v := ?_) rfl (by kernel_rfl) (by kernel_rfl) (by kernel_rfl) (fun _ _ _ h => h) (Or.inl ⟨by rfl, ?_⟩) hHeld ?_
  rotate_left
  · intro w hSw
    go_simp
    try with_reducible rfl
  try simp only [Act.put, List.setIfInBounds_toArray, List.set_cons_zero, List.set_cons_succ]
  refine wpAnyH_take (i := 10) (oi := ⟨some 17, _, _, _, _, _⟩) (v := ?_) rfl (by kernel_rfl) (by kernel_rfl) (by kernel_rfl) (fun _ _ _ h => h) (Or.inl ⟨by rfl, ?_⟩) hHeld ?_
  rotate_left
  · intro w hSw
    obtain ⟨k0, k1, k2, _⟩ := HLD.out w hSw
    go_simp
    try with_reducible rfl
  try simp only [Act.put, List.setIfInBounds_toArray, List.set_cons_zero, List.set_cons_succ]
  refine wpAnyH_take (i := 11) (oi := ⟨some 18, _, _, _, _, _⟩) (v := ?_) rfl (by kernel_rfl) (by kernel_rfl) (by kernel_rfl) (fun _ _ _ h => h) (Or.inl ⟨by rfl, ?_⟩) hHeld ?_
  rotate_left
  · intro w hSw
    go_simp
    try with_reducible rfl
  try simp only [Act.put, List.setIfInBounds_toArray, List.set_cons_zero, List.set_cons_succ]
  refine wpAnyH_take (i := 12) (oi := ⟨some 19, _, _, _, _, _⟩) (v := ?_) rfl (by kernel_rfl) (by kernel_rfl) (by kernel_rfl) (fun _ _ _ h => h) (Or.inl ⟨by rfl, ?_⟩) hHeld ?_
  rotate_left
  · intro w hSw
    go_simp
    try with_reducible rfl
  try simp only [Act.put, List.setIfInBounds_toArray, List.set_cons_zero, List.set_cons_succ]
  refine wpAnyH_take (i := 13) (oi := ⟨some 20, _, _, _, _, _⟩) (v := ?_) rfl (by kernel_rfl) (by kernel_rfl) (by kernel_rfl) (fun _ _ _ h => h) (Or.inl ⟨by rfl, ?_⟩) hHeld ?_
  rotate_left
  · intro w hSw
    go_simp
    try with_reducible rfl
  try simp only [Act.put, List.setIfInBounds_toArray, List.set_cons_zero, List.set_cons_succ]
  refine wpAnyH_take (i := 14) (oi := ⟨some 21, _, _, _, _, _⟩) (v := ?_) rfl (by kernel_rfl) (by kernel_rfl) (by kernel_rfl) (fun _ _ _ h => h) (Or.inl ⟨by rfl, ?_⟩) hHeld ?_
  rotate_left
  · intro w hSw
    go_simp
    try with_reducible rfl
  try simp only [Act.put, List.setIfInBounds_toArray, List.set_cons_zero, List.set_cons_succ]
  refine wpAnyH_take (i := 15) (oi := ⟨some 22, _, _, _, _, _⟩) (v := ?_) rfl (by kernel_rfl) (by kernel_rfl) (by kernel_rfl) (fun _ _ _ h => h) (Or.inl ⟨by rfl, ?_⟩) hHeld ?_
  rotate_left
  · intro w hSw
    obtain ⟨k0, k1, k2, _⟩ := HLD.out w hSw
    go_simp
    try with_reducible rfl
  try simp only [Act.put, List.setIfInBounds_toArray, List.set_cons_zero, List.set_cons_succ]
  refine wpAnyH_ready (rs := [16]) (by kernel_rfl) (by simp) ?_
  refine AllReadyH.cons rfl (fun K hK => ?_) AllReadyH.nil
  go_simp
  go_wp2_with (go_at_call 138; go_must (refine (CB2.out _ hHeld).mono ?_; rintro e w16 ⟨⟨v, rfl, hR⟩, hB⟩))
  refine hK.out _ _ (hHeld.trans (hB.mono hHeld.size)) (fun hHeld => ?_)
  clear hK K
  refine wpAnyH_take (i := 17) (oi := ⟨some 6, _, _, _, _, _⟩) (v := ?_) rfl (by kernel_rfl) (by kernel_rfl) (by kernel_rfl) (fun _ _ _ h => h) (Or.inl ⟨by rfl, ?_⟩) hHeld ?_
  rotate_left
  · intro w hSw
    go_simp
    try with_reducible rfl
  try simp only [Act.put, List.setIfInBounds_toArray, List.set_cons_zero, List.set_cons_succ]
  refine wpAnyH_done (by kernel_rfl) ?_ _
  have HB3 := Lib.hid (HB2.out.trans (hHeld.mono HB2.out.size))
  have hsz : w.heap.size ≤ w2.heap.size := HB2.out.size
  have HR : Hid (BinsR w.heap.size w16 v r) := Lib.hid (by
    obtain ⟨g, c, e1, e2, e3⟩ := hR
    exact ⟨g, c, e1, by have : w2.heap.size ≤ g := e2; omega, e3⟩)
  clear hB hHeld hR
  go_wp2
  go_ret
  exact ⟨⟨_, rfl, HR.out⟩, HB3.out⟩
set_option maxRecDepth 100000 in
set_option maxHeartbeats 1000000 in
theorem count_free (K FK : Nat → Nat) (x fl : Array Value) (cl k : Nat) (n : Int) (y : Bin) (h : Pol w A F S) (hv : Lv1 F K) (hx : PkL x n) (hxf : PkF x fl) (hf : KeyOf fl FK) (hcl : (cl : Int) < F.c 0) (hk : fallV K FK 1 (F.c 3).toNat = k) (hy : S.b0[k]? = some y) (hn : 1 ≤ n ∧ n ≤ 9216) :
    Calls Tryz.prog 133 #[.pointer (some ⟨A.pb, 0, none⟩), .int .i64 (cl : Nat), .agg x, .bool true] w fun e w' => e = .returned (.tuple #[]) ∧ Pol w' A F { S with b0 := S.b0.set k ⟨addC y.bytes n, y.changed, y.p⟩ } ∧ Tur A.tg [6, 7] w w' := by
  have hbn := h.fok.right.bins
  have hbk := h.fok.right.buckets
  have hlv := hv.lv
  have hkl : k < (F.c 3).toNat := by
    rw [← hk]
    exact fallV_lt _ _ _ _ (by omega)
  have CP := Lib.hid (fun w' (q : Pol w' A F S) => police_penalty q)
  have CB := Lib.hid (fun w' (q : Pol w' A F S) => police_bins K FK fl q hv hf)
  rw [hk] at CB
  have CU : Hid (∀ (w' : World) (g c : Nat), Pol w' A F S → w'.cell? ⟨g, 0, none⟩ = some (.int .i64 (k : Nat)) → Calls Tryz.prog 101 #[.pointer (some ⟨A.u0, 0, none⟩), .slice (some ⟨g, 0, none⟩) 1 c, .int .i64 n] w' fun e w'' => e = .returned (.bool true) ∧ Pol w'' A F { S with b0 := S.b0.set k ⟨addC y.bytes n, y.changed, y.p⟩ } ∧ Tur A.tg [6] w' w'') := Lib.hid fun w' g c q hc => by
    have hb0 := q.b0
    rw [hlv] at hb0
    refine (blue_put A.u0 A.v0 g c k (F.c 3).toNat S.b0 y (F.c 13) (F.c 14) (F.c 4) (F.c 5) n w' hb0 hc hkl (by omega) hy (by omega)).mono ?_
    rintro e w'' ⟨rfl, hB, hT⟩
    have hT' : Tur A.tg [6] w' w'' := Tur.of_two hT (by simp [q.ok.b0.2]) (by simp [q.ok.b0.2])
    refine ⟨rfl, (q.rest hT').setB0 ?_, hT'⟩
    rw [hlv]
    exact hB
  have HH := Lib.hid h
  have HXP := Lib.hid hx
  have HXF := Lib.hid hxf
  have HFS := Lib.hid hf.size
  have hne : ((cl : Int) == 2 * F.c 0) = false := beq_false_of_ne (by omega)
  have hq0 : (cl : Int).tdiv (F.c 0) = 0 := Int.tdiv_eq_zero_of_lt (by omega) hcl
  have hnz : ¬ (F.c 0 = 0) := by omega
  have hb0 := h.lo 0 (by omega)
  clear h hv hx hxf hf hy hk hlv
  generalize 2 * F.c 0 = pn at *
  have hne2 : ¬ ((cl : Int) = pn) := by simpa using hne
  go_enter Tryz.func133, Tryz.ntmps133
  go_upto_region 1 with ((with_reducible refine arm_box 6 2 68 x ?_ ?_); rfl; intro w1 HB HX HS)
  have HP1 := Lib.hid (HH.out.below HB.out)
  go_wp2_with fail
  refine (CP.out _ HP1.out).mono ?_
  rintro e w2 ⟨rfl, hw2⟩
  subst hw2
  have k0 := HP1.out.lo 0 (by omega)
  have HLD : Hid (∀ w', Below w2.heap.size w2 w' → w'.cell? ⟨A.pb, 24, none⟩ = some (.pointer (some ⟨A.u0, 0, none⟩)) ∧ (Instr.loadAt 58 (.pointer (some ⟨w.heap.size, 1, none⟩))).run Tryz.prog w' = .ok (.agg fl) w') := Lib.hid fun w' q =>
    ⟨(HP1.out.below q).c24, HXF.out.load HFS.out (keep_block q HX.out)⟩
  go_wp2_with fail
  refine wp_region_held_drew (S := Below w2.heap.size w2) (by kernel_rfl) (Below.refl _ _).drew (fun hHeld => ?_)
  refine wpAnyH_take (i := 0) (oi := ⟨some 22, _, _, _, _, _⟩) (v := ?_) rfl (by kernel_rfl) (by kernel_rfl) (by kernel_rfl) (fun _ _ _ h => h) (Or.inl ⟨by rfl, ?_⟩) hHeld ?_
  rotate_left
  · intro w hSw
    go_simp
    try with_reducible rfl
  try simp only [Act.put, List.setIfInBounds_toArray, List.set_cons_zero, List.set_cons_succ]
  refine wpAnyH_take (i := 1) (oi := ⟨some 23, _, _, _, _, _⟩) (v := ?_) rfl (by kernel_rfl) (by kernel_rfl) (by kernel_rfl) (fun _ _ _ h => h) (Or.inl ⟨by rfl, ?_⟩) hHeld ?_
  rotate_left
  · intro w hSw
    go_simp
    try with_reducible rfl
  try simp only [Act.put, List.setIfInBounds_toArray, List.set_cons_zero, List.set_cons_succ]
  refine wpAnyH_take (i := 2) (oi := ⟨some 24, _, _, _, _, _⟩) (v := ?_) rfl (by kernel_rfl) (by kernel_rfl) (by kernel_rfl) (fun _ _ _ h => h) (Or.inl ⟨by rfl, ?_⟩) hHeld ?_
  rotate_left
  · intro w hSw
    go_simp
    try with_reducible rfl
  try simp only [Act.put, List.setIfInBounds_toArray, List.set_cons_zero, List.set_cons_succ]
  refine wpAnyH_take (i := 3) (oi := ⟨some 25, _, _, _, _, _⟩) (v := ?_) rfl (by kernel_rfl) (by kernel_rfl) (by kernel_rfl) (fun _ _ _ h => h) (Or.inl ⟨by rfl, ?_⟩) hHeld ?_
  rotate_left
  · intro w hSw
    go_simp
    try with_reducible rfl
  try simp only [Act.put, List.setIfInBounds_toArray, List.set_cons_zero, List.set_cons_succ]
  refine wpAnyH_take (i := 4) (oi := ⟨some 26, _, _, _, _, _⟩) (v := ?_) rfl (by kernel_rfl) (by kernel_rfl) (by kernel_rfl) (fun _ _ _ h => h) (Or.inl ⟨by rfl, ?_⟩) hHeld ?_
  rotate_left
  · intro w hSw
    go_simp
    try with_reducible rfl
  try simp only [Act.put, List.setIfInBounds_toArray, List.set_cons_zero, List.set_cons_succ]
  refine wpAnyH_take (i := 5) (oi := ⟨some 27, _, _, _, _, _⟩) (v := ?_) rfl (by kernel_rfl) (by kernel_rfl) (by kernel_rfl) (fun _ _ _ h => h) (Or.inl ⟨by rfl, ?_⟩) hHeld ?_
  rotate_left
  · intro w hSw
    obtain ⟨k4, _⟩ := HLD.out w hSw
    go_simp
    try with_reducible rfl
  try simp only [Act.put, List.setIfInBounds_toArray, List.set_cons_zero, List.set_cons_succ]
  refine wpAnyH_take (i := 6) (oi := ⟨some 28, _, _, _, _, _⟩) (v := ?_) rfl (by kernel_rfl) (by kernel_rfl) (by kernel_rfl) (fun _ _ _ h => h) (Or.inl ⟨by rfl, ?_⟩) hHeld ?_
  rotate_left
  · intro w hSw
    go_simp
    try with_reducible rfl
  try simp only [Act.put, List.setIfInBounds_toArray, List.set_cons_zero, List.set_cons_succ]
  refine wpAnyH_take (i := 7) (oi := ⟨some 29, _, _, _, _, _⟩) (v := ?_) rfl (by kernel_rfl) (by kernel_rfl) (by kernel_rfl) (fun _ _ _ h => h) (Or.inl ⟨by rfl, ?_⟩) hHeld ?_
  rotate_left
  · intro w hSw
    go_simp
    try with_reducible rfl
  try simp only [Act.put, List.setIfInBounds_toArray, List.set_cons_zero, List.set_cons_succ]
  refine wpAnyH_take (i := 8) (oi := ⟨some 30, _, _, _, _, _⟩) (v := ?_) rfl (by kernel_rfl) (by kernel_rfl) (by kernel_rfl) (fun _ _ _ h => h) (Or.inl ⟨by rfl, ?_⟩) hHeld ?_
  rotate_left
  · intro w hSw
    go_simp
    try with_reducible rfl
  try simp only [Act.put, List.setIfInBounds_toArray, List.set_cons_zero, List.set_cons_succ]
  refine wpAnyH_take (i := 9) (oi := ⟨some 31, _, _, _, _, _⟩) (v := .agg fl) rfl (by kernel_rfl) (by kernel_rfl) (by kernel_rfl) (fun _ _ _ h => h) (Or.inl ⟨by rfl, fun w hSw => exec_load rfl (HLD.out w hSw).2⟩) hHeld ?_
  try simp only [Act.put, List.setIfInBounds_toArray, List.set_cons_zero, List.set_cons_succ]
  refine wpAnyH_ready (rs := [10]) (by kernel_rfl) (by simp) ?_
  refine AllReadyH.cons rfl (fun K hK => ?_) AllReadyH.nil
  go_simp
  go_wp2_with (go_at_call 80; go_must (refine (CB.out _ (HP1.out.below hHeld)).mono ?_; rintro e w10 ⟨⟨v, rfl, hR⟩, hB⟩))
  refine hK.out _ _ (hHeld.trans (hB.mono hHeld.size)) (fun hHeld => ?_)
  clear hK K
  refine wpAnyH_take (i := 11) (oi := ⟨some 9, _, _, _, _, _⟩) (v := ?_) rfl (by kernel_rfl) (by kernel_rfl) (by kernel_rfl) (fun _ _ _ h => h) (Or.inl ⟨by rfl, ?_⟩) hHeld ?_
  rotate_left
  · intro w hSw
    go_simp
    try with_reducible rfl
  try simp only [Act.put, List.setIfInBounds_toArray, List.set_cons_zero, List.set_cons_succ]
  refine wpAnyH_take (i := 12) (oi := ⟨some 10, _, _, _, _, _⟩) (v := ?_) rfl (by kernel_rfl) (by kernel_rfl) (by kernel_rfl) (fun _ _ _ h => h) (Or.inl ⟨by rfl, ?_⟩) hHeld ?_
  rotate_left
  · intro w hSw
    go_simp
    try with_reducible rfl
  try simp only [Act.put, List.setIfInBounds_toArray, List.set_cons_zero, List.set_cons_succ]
  refine wpAnyH_done (by kernel_rfl) ?_ _
  obtain ⟨g, c, rfl, _, hgc⟩ := hR
  have HP2 := Lib.hid (HP1.out.below hHeld)
  have HX2 := Lib.hid (keep_block hHeld HX.out)
  have HB2 := Lib.hid (HB.out.trans (hHeld.mono HB.out.size))
  have CU2 := Lib.hid (CU.out w10 g c HP2.out hgc)
  have k45 := cells_of_row HX2.out 45 _ HXP.out.len
  clear hB hHeld hgc k0 hb0
  go_wp2_with fail
  refine CU2.out.mono ?_
  rintro e w11 ⟨rfl, hP, hT⟩
  have HP3 := Lib.hid hP
  have HT3 : Hid (Tur A.tg [6, 7] w w11) := Lib.hid ((Tur.of_below HB2.out).trans (hT.sub (by simp)))
  clear hP hT CU2
  go_wp2
  go_end0
  exact ⟨rfl, HP3.out, HT3.out⟩
end
end Go.Proofs.YtpanmfdbdgecaaaGreat.C

namespace Go.Proofs.YtpanmfdbdgecaaaGreat.C
open Go.RowKit
set_option linter.unusedVariables false
section
variable {w : World} {A : PAd} {F : PCf} {S : PSt}
/-- What a bin is behind a packet that was taken in. -/
def binA (F : PCf) (now n : Int) (b : Bin) : Bin :=
  ⟨addC (touchB (F.c 13) (F.c 14) (F.c 4) (F.c 5) now b).bytes n, (touchB (F.c 13) (F.c 14) (F.c 4) (F.c 5) now b).changed, (touchB (F.c 13) (F.c 14) (F.c 4) (F.c 5) now b).p⟩
/-- What the police has behind it. -/
def freeS (F : PCf) (S : PSt) (x : Array Value) (n now : Int) (cl k : Nat) (l : List (Array Value)) (b : Bin) : PSt :=
  { S with L := S.L.set cl (l ++ [x]), sh := QU.addS (F.c 9) (F.c 10) S.sh S.ql cl n, ql := QU.addL (F.c 9) (F.c 10) S.sh S.ql cl n, b0 := S.b0.set k (binA F now n b), tl := (wakeT S.tl S.line cl).1, line := (wakeT S.tl S.line cl).2 }
set_option maxRecDepth 100000 in
set_option maxHeartbeats 4000000 in
theorem free_ok (K FK : Nat → Nat) (x fl dr V : Array Value) (cl k vb : Nat) (n now d1 : Int) (l : List (Array Value)) (y : Tcl) (b : Bin)
    (h : Pol w A F S) (hv : Lv1 F K) (hx : PkL x n) (hxf : PkF x fl) (hf : KeyOf fl FK) (hn : 1 ≤ n ∧ n ≤ 9216) (hcl : fallV K FK 0 (F.c 0).toNat = cl) (hk : fallV K FK 1 (F.c 3).toNat = k) (hb : S.b0[k]? = some b) (hbo : BinOk b) (hnow : 0 ≤ now ∧ now ≤ 4611686018427387903) (hl : S.L[cl]? = some l) (hch : sumL l < F.c 12) (hdr : dr.size = 2) (hd : dr[1]? = some (.int .u64 d1)) (hd0 : 0 ≤ d1) (hdm : (touchB (F.c 13) (F.c 14) (F.c 4) (F.c 5) now b).p ≤ d1 % 65536)
    (hok : QU.QOk (F.c 9) (F.c 10) S.sh S.ql) (htl : S.tl.length ≤ 129) (hyes : QU.fitsB (F.c 9) (F.c 10) S.sh S.ql cl n = true) (hroom : total S.L < (F.c 1).toNat) (hy : S.tl[cl]? = some y) (hlt : y.awake = false → S.line.length < S.tl.length)
    (hvb : w.heap[vb]? = some (.cells V 35 (0, 0))) (hV : V.size = 6) (hvt : A.tg vb = 0) :
    Calls Tryz.prog 42 #[.pointer (some ⟨A.pb, 0, none⟩), .agg x, .int .i64 now, .agg dr, .pointer (some ⟨vb, 0, none⟩)] w fun e w' => e = .returned (.int .i64 0) ∧ Pol w' A F (freeS F S x n now cl k l b) ∧ w'.heap[vb]? = some (.cells (V.setIfInBounds 2 (.int .i64 (cl : Nat))) 35 (0, 0)) ∧ Tur (C.exc A.tg vb 3) [3, 4, 5, 6, 7] w w' := by
  have hbn := h.fok.right.bins
  have hbk := h.fok.right.buckets
  have hup := h.fok.right.up
  have hdn := h.fok.right.down
  have hlv := hv.lv
  have hkl : k < (F.c 3).toNat := by
    rw [← hk]
    exact fallV_lt _ _ _ _ (by omega)
  have hcl2 : (cl : Int) < F.c 0 := by
    have := fallV_lt K FK 0 (F.c 0).toNat (by omega)
    omega
  have hb1 : (S.b0.set k (touchB (F.c 13) (F.c 14) (F.c 4) (F.c 5) now b))[k]? = some (touchB (F.c 13) (F.c 14) (F.c 4) (F.c 5) now b) := List.getElem?_set_self (lt_of_some hb)
  have hbo1 : BinOk (touchB (F.c 13) (F.c 14) (F.c 4) (F.c 5) now b) := by
    obtain ⟨o1, o2, o3, o4⟩ := hbo
    unfold touchB
    split
    · exact ⟨o1, o2, o3, o4⟩
    · split
      · refine ⟨hnow.1, hnow.2, ?_, ?_⟩
        · show 0 ≤ (if 65536 < b.p + F.c 4 then 65536 else b.p + F.c 4)
          split <;> omega
        · show (if 65536 < b.p + F.c 4 then 65536 else b.p + F.c 4) ≤ 65536
          split <;> omega
      · split
        · refine ⟨hnow.1, hnow.2, ?_, ?_⟩
          · show 0 ≤ (if b.p - F.c 5 < 0 then 0 else b.p - F.c 5)
            split <;> omega
          · show (if b.p - F.c 5 < 0 then 0 else b.p - F.c 5) ≤ 65536
            split <;> omega
        · exact ⟨o1, o2, o3, o4⟩
  have hfin : ∀ S', S' = freeS F S x n now cl k l b → S' = freeS F S x n now cl k l b := fun _ e => e
  have CW := Lib.hid (fun w' (q : Pol w' A F S) => gens_where A.gb (F.c 0).toNat F.kv fl F.G K FK w' q.gn hv.key hf (by omega) (by omega))
  rw [hcl] at CW
  have CB := Lib.hid (fun w' (q : Pol w' A F S) => store_bytes A.st cl _ S.L l w' q.sto hl)
  have CI := Lib.hid (fun w' (q : Pol w' A F S) => police_bins K FK fl q hv hf)
  rw [hk] at CI
  have CT : Hid (∀ (w' : World) (g c : Nat), Pol w' A F S → w'.cell? ⟨g, 0, none⟩ = some (.int .i64 (k : Nat)) → Calls Tryz.prog 81 #[.pointer (some ⟨A.u0, 0, none⟩), .slice (some ⟨g, 0, none⟩) 1 c, .int .i64 now] w' fun e w'' => e = .returned (.bool true) ∧ Pol w'' A F { S with b0 := S.b0.set k (touchB (F.c 13) (F.c 14) (F.c 4) (F.c 5) now b) } ∧ Two A.v0 A.v0 w' w'') := Lib.hid fun w' g c q hc => by
    have hb0 := q.b0
    rw [hlv] at hb0
    refine (blue_touch A.u0 A.v0 g c k (F.c 3).toNat S.b0 b (F.c 13) (F.c 14) (F.c 4) (F.c 5) now w' hb0 hc hkl (by omega) hb hbo hnow hup hdn).mono ?_
    rintro e w'' ⟨rfl, hB, hT⟩
    have hT' : Tur A.tg [6] w' w'' := Tur.of_two hT (by simp [q.ok.b0.2]) (by simp [q.ok.b0.2])
    refine ⟨rfl, (q.rest hT').setB0 ?_, hT⟩
    rw [hlv]
    exact hB
  have CM : Hid (∀ (w' : World) (g c : Nat), Pol w' A F { S with b0 := S.b0.set k (touchB (F.c 13) (F.c 14) (F.c 4) (F.c 5) now b) } → w'.cell? ⟨g, 0, none⟩ = some (.int .i64 (k : Nat)) → Calls Tryz.prog 82 #[.pointer (some ⟨A.u0, 0, none⟩), .slice (some ⟨g, 0, none⟩) 1 c] w' fun e w'' => e = .returned (.int .i64 (touchB (F.c 13) (F.c 14) (F.c 4) (F.c 5) now b).p) ∧ Below w'.heap.size w' w'') := Lib.hid fun w' g c q hc => by
    have hb0 := q.b0
    rw [hlv] at hb0
    exact blue_mark A.u0 A.v0 g c k (F.c 3).toNat _ (touchB (F.c 13) (F.c 14) (F.c 4) (F.c 5) now b) (F.c 13) (F.c 14) (F.c 4) (F.c 5) w' hb0 hc hkl (by omega) hb1 hbo1
  have CJ : Hid (∀ w', Pol w' A F { S with b0 := S.b0.set k (touchB (F.c 13) (F.c 14) (F.c 4) (F.c 5) now b) } → Calls Tryz.prog 74 #[.pointer (some ⟨A.pb, 0, none⟩), .int .i64 (cl : Nat), .agg x] w' fun e w'' => e = .returned (.int .i64 0) ∧ Pol w'' A F (freeS F S x n now cl k l b) ∧ Tur A.tg [3, 4, 5, 6, 7] w' w'') := Lib.hid fun w' q => by
    refine (join_yes (S := { S with b0 := S.b0.set k (touchB (F.c 13) (F.c 14) (F.c 4) (F.c 5) now b) }) cl n x l y (S.b0.set k (binA F now n b)) S.b1 hx q hok hl htl hn hyes hroom hy hlt ?_).mono ?_
    · intro w1 S1 q1 e0 e1
      refine (count_free K FK x fl cl k n (touchB (F.c 13) (F.c 14) (F.c 4) (F.c 5) now b) q1 hv hx hxf hf hcl2 hk (by rw [e0]; exact hb1) hn).mono ?_
      rintro e w2 ⟨rfl, hP, hT⟩
      refine ⟨rfl, ?_, hT⟩
      have : { S1 with b0 := S.b0.set k (binA F now n b), b1 := S.b1 } = { S1 with b0 := S1.b0.set k ⟨addC (touchB (F.c 13) (F.c 14) (F.c 4) (F.c 5) now b).bytes n, (touchB (F.c 13) (F.c 14) (F.c 4) (F.c 5) now b).changed, (touchB (F.c 13) (F.c 14) (F.c 4) (F.c 5) now b).p⟩ } := by
        rw [e0, ← (show S1.b1 = S.b1 from e1), List.set_set]
        rfl
      rw [this]
      exact hP
    · rintro e w'' ⟨rfl, hP, hT⟩
      exact ⟨rfl, hP, hT⟩
  have HH := Lib.hid h
  have HO := Lib.hid h.ok
  have HXP := Lib.hid hx
  have HXF := Lib.hid hxf
  have HFS := Lib.hid hf.size
  have HDS := Lib.hid hdr
  have HDD := Lib.hid hd
  have HVB := Lib.hid hvb
  have HVS := Lib.hid hV
  have HVT := Lib.hid hvt
  have HCH := Lib.hid hch
  have hdd : decide (F.c 12 ≤ sumL l) = false := decide_eq_false (by omega)
  obtain ⟨dm, hdme⟩ : ∃ z, d1.tmod 65536 = z := ⟨_, rfl⟩
  have hdmr : d1 % 65536 = dm := by rw [← hdme, Int.tmod_eq_emod_of_nonneg hd0]
  rw [hdmr] at hdm
  have hdm0 : 0 ≤ dm ∧ dm < 65536 := by omega
  have hwd : IntKind.i64.wrap dm = dm := IntWalk.i64_in _ (by omega)
  have hmk : decide (dm < (touchB (F.c 13) (F.c 14) (F.c 4) (F.c 5) now b).p) = false := decide_eq_false (by omega)
  have hlim := h.lim
  have hvlt : vb < w.heap.size := (Array.getElem?_eq_some_iff.1 hvb).1
  clear h hv hx hxf hf hb hk hcl hl hy hlt hyes hroom hok htl hb1 hbo1 hbo hd hdr hvb hV hvt hfin hch hlv hup hdn
  generalize freeS F S x n now cl k l b = S3 at *
  generalize { S with b0 := S.b0.set k (touchB (F.c 13) (F.c 14) (F.c 4) (F.c 5) now b) } = S2 at *
  generalize (touchB (F.c 13) (F.c 14) (F.c 4) (F.c 5) now b).p = mp at *
  generalize sumL l = sl at *
  have hmk2 : ¬ (dm < mp) := by omega
  go_enter Tryz.func42, Tryz.ntmps42
  go_upto_region 1 with (first | ((with_reducible refine arm_box 6 1 68 x ?_ ?_); rfl; intro w1 HB HX HS) | ((with_reducible refine arm_box 8 3 41 dr ?_ ?_); rfl; intro w2 HB2 HX2 HS2))
  have hs1 := HS.out
  have HP2 := Lib.hid (HH.out.below (HB.out.trans (HB2.out.mono HB.out.size)))
  have BA := Lib.hid (HB.out.trans (HB2.out.mono HB.out.size))
  have X2 := Lib.hid (keep_block HB2.out HX.out)
  have R2 := Lib.hid HX2.out
  clear HX HX2
  have HLD : Hid (∀ w', Below w2.heap.size w2 w' → w'.cell? ⟨A.pb, 20, none⟩ = some (.pointer (some ⟨A.gb, 0, none⟩)) ∧ (Instr.loadAt 58 (.pointer (some ⟨w.heap.size, 1, none⟩))).run Tryz.prog w' = .ok (.agg fl) w') := Lib.hid fun w' q =>
    ⟨(HP2.out.below q).c20, HXF.out.load HFS.out (keep_block q X2.out)⟩
  go_wp2_with fail
  refine wp_region_held_drew (S := Below w2.heap.size w2) (by kernel_rfl) (Below.refl _ _).drew (fun hHeld => ?_)
  refine wpAnyH_take (i := 0) (oi := ⟨some 19, _, _, _, _, _⟩) (v := ?_) rfl (by kernel_rfl) (by kernel_rfl) (by kernel_rfl) (fun _ _ _ h => h) (Or.inl ⟨by rfl, ?_⟩) hHeld ?_
  rotate_left
  · intro w hSw
    go_simp
    try with_reducible rfl
  try simp only [Act.put, List.setIfInBounds_toArray, List.set_cons_zero, List.set_cons_succ]
  refine wpAnyH_take (i := 1) (oi := ⟨some 20, _, _, _, _, _⟩) (v := ?_) rfl (by kernel_rfl) (by kernel_rfl) (by kernel_rfl) (fun _ _ _ h => h) (Or.inl ⟨by rfl, ?_⟩) hHeld ?_
  rotate_left
  · intro w hSw
    go_simp
    try with_reducible rfl
  try simp only [Act.put, List.setIfInBounds_toArray, List.set_cons_zero, List.set_cons_succ]
  refine wpAnyH_take (i := 2) (oi := ⟨some 21, _, _, _, _, _⟩) (v := ?_) rfl (by kernel_rfl) (by kernel_rfl) (by kernel_rfl) (fun _ _ _ h => h) (Or.inl ⟨by rfl, ?_⟩) hHeld ?_
  rotate_left
  · intro w hSw
    go_simp
    try with_reducible rfl
  try simp only [Act.put, List.setIfInBounds_toArray, List.set_cons_zero, List.set_cons_succ]
  refine wpAnyH_take (i := 3) (oi := ⟨some 22, _, _, _, _, _⟩) (v := ?_) rfl (by kernel_rfl) (by kernel_rfl) (by kernel_rfl) (fun _ _ _ h => h) (Or.inl ⟨by rfl, ?_⟩) hHeld ?_
  rotate_left
  · intro w hSw
    obtain ⟨k0, _⟩ := HLD.out w hSw
    go_simp
    try with_reducible rfl
  try simp only [Act.put, List.setIfInBounds_toArray, List.set_cons_zero, List.set_cons_succ]
  refine wpAnyH_take (i := 4) (oi := ⟨some 23, _, _, _, _, _⟩) (v := ?_) rfl (by kernel_rfl) (by kernel_rfl) (by kernel_rfl) (fun _ _ _ h => h) (Or.inl ⟨by rfl, ?_⟩) hHeld ?_
  rotate_left
  · intro w hSw
    go_simp
    try with_reducible rfl
  try simp only [Act.put, List.setIfInBounds_toArray, List.set_cons_zero, List.set_cons_succ]
  refine wpAnyH_take (i := 5) (oi := ⟨some 24, _, _, _, _, _⟩) (v := .agg fl) rfl (by kernel_rfl) (by kernel_rfl) (by kernel_rfl) (fun _ _ _ h => h) (Or.inl ⟨by rfl, fun w hSw => exec_load rfl (HLD.out w hSw).2⟩) hHeld ?_
  try simp only [Act.put, List.setIfInBounds_toArray, List.set_cons_zero, List.set_cons_succ]
  refine wpAnyH_ready (rs := [6]) (by kernel_rfl) (by simp) ?_
  refine AllReadyH.cons rfl (fun K hK => ?_) AllReadyH.nil
  go_simp
  go_wp2_with (go_at_call 75; go_must (refine (CW.out _ (HP2.out.below hHeld)).mono ?_; rintro e w6 ⟨rfl, hB⟩))
  refine hK.out _ _ (hHeld.trans (hB.mono hHeld.size)) (fun hHeld => ?_)
  clear hK K
  refine wpAnyH_take (i := 7) (oi := ⟨some 18, _, _, _, _, _⟩) (v := ?_) rfl (by kernel_rfl) (by kernel_rfl) (by kernel_rfl) (fun _ _ _ h => h) (Or.inl ⟨by rfl, ?_⟩) hHeld ?_
  rotate_left
  · intro w hSw
    go_simp
    try with_reducible rfl
  try simp only [Act.put, List.setIfInBounds_toArray, List.set_cons_zero, List.set_cons_succ]
  refine wpAnyH_take (i := 8) (oi := ⟨some 26, _, _, _, _, _⟩) (v := ?_) rfl (by kernel_rfl) (by kernel_rfl) (by kernel_rfl) (fun _ _ _ h => h) (Or.inl ⟨by rfl, ?_⟩) hHeld ?_
  rotate_left
  · intro w hSw
    go_simp
    try with_reducible rfl
  try simp only [Act.put, List.setIfInBounds_toArray, List.set_cons_zero, List.set_cons_succ]
  refine wpAnyH_take (i := 9) (oi := ⟨some 27, _, _, _, _, _⟩) (v := ?_) rfl (by kernel_rfl) (by kernel_rfl) (by kernel_rfl) (fun _ _ _ h => h) (Or.inl ⟨by rfl, ?_⟩) hHeld ?_
  rotate_left
  · intro w hSw
    go_simp
    try with_reducible rfl
  try simp only [Act.put, List.setIfInBounds_toArray, List.set_cons_zero, List.set_cons_succ]
  refine wpAnyH_take (i := 10) (oi := ⟨some 11, _, _, _, _, _⟩) (v := ?_) rfl (by kernel_rfl) (by kernel_rfl) (by kernel_rfl) (fun _ _ _ h => h) (Or.inl ⟨by rfl, ?_⟩) hHeld ?_
  rotate_left
  · intro w hSw
    go_simp
    try with_reducible rfl
  try simp only [Act.put, List.setIfInBounds_toArray, List.set_cons_zero, List.set_cons_succ]
  refine wpAnyH_take (i := 11) (oi := ⟨some 12, _, _, _, _, _⟩) (v := ?_) rfl (by kernel_rfl) (by kernel_rfl) (by kernel_rfl) (fun _ _ _ h => h) (Or.inl ⟨by rfl, ?_⟩) hHeld ?_
  rotate_left
  · intro w hSw
    go_simp
    try with_reducible rfl
  try simp only [Act.put, List.setIfInBounds_toArray, List.set_cons_zero, List.set_cons_succ]
  refine wpAnyH_done (by kernel_rfl) ?_ _
  have HP3 := Lib.hid (HP2.out.below hHeld)
  have X3 := Lib.hid (keep_block hHeld X2.out)
  have R3 := Lib.hid (keep_block hHeld R2.out)
  have B3 := Lib.hid (BA.out.trans (hHeld.mono BA.out.size))
  clear hB hHeld HLD HP2 X2 R2 BA
  generalize w6 = v3 at *
  have R4 : Hid (v3.heap[w.heap.size + 1]? = some (.cells dr 41 (0, 0))) := Lib.hid (by rw [← hs1]; exact R3.out)
  clear R3 hs1 CW
  have HLE : Hid (∀ w', Below v3.heap.size v3 w' → w'.cell? ⟨A.pb, 21, none⟩ = some (.pointer (some ⟨A.st.sb, 0, none⟩)) ∧ w'.cell? ⟨A.pb, 12, none⟩ = some (.int .i64 (F.c 12))) := Lib.hid fun w' q => ⟨(HP3.out.below q).c21, (HP3.out.below q).lo 12 (by omega)⟩
  go_wp2_with fail
  refine wp_region_held_drew (S := Below v3.heap.size v3) (by kernel_rfl) (Below.refl _ _).drew (fun hHeld => ?_)
  refine wpAnyH_take (i := 0) (oi := ⟨some 28, _, _, _, _, _⟩) (v := ?_) rfl (by kernel_rfl) (by kernel_rfl) (by kernel_rfl) (fun _ _ _ h => h) (Or.inl ⟨by rfl, ?_⟩) hHeld ?_
  rotate_left
  · intro w hSw
    go_simp
    try with_reducible rfl
  try simp only [Act.put, List.setIfInBounds_toArray, List.set_cons_zero, List.set_cons_succ]
  refine wpAnyH_take (i := 1) (oi := ⟨some 29, _, _, _, _, _⟩) (v := ?_) rfl (by kernel_rfl) (by kernel_rfl) (by kernel_rfl) (fun _ _ _ h => h) (Or.inl ⟨by rfl, ?_⟩) hHeld ?_
  rotate_left
  · intro w hSw
    go_simp
    try with_reducible rfl
  try simp only [Act.put, List.setIfInBounds_toArray, List.set_cons_zero, List.set_cons_succ]
  refine wpAnyH_take (i := 2) (oi := ⟨some 30, _, _, _, _, _⟩) (v := ?_) rfl (by kernel_rfl) (by kernel_rfl) (by kernel_rfl) (fun _ _ _ h => h) (Or.inl ⟨by rfl, ?_⟩) hHeld ?_
  rotate_left
  · intro w hSw
    go_simp
    try with_reducible rfl
  try simp only [Act.put, List.setIfInBounds_toArray, List.set_cons_zero, List.set_cons_succ]
  refine wpAnyH_take (i := 3) (oi := ⟨some 31, _, _, _, _, _⟩) (v := ?_) rfl (by kernel_rfl) (by kernel_rfl) (by kernel_rfl) (fun _ _ _ h => h) (Or.inl ⟨by rfl, ?_⟩) hHeld ?_
  rotate_left
  · intro w hSw
    obtain ⟨k0, k1⟩ := HLE.out w hSw
    go_simp
    try with_reducible rfl
  try simp only [Act.put, List.setIfInBounds_toArray, List.set_cons_zero, List.set_cons_succ]
  refine wpAnyH_take (i := 4) (oi := ⟨some 32, _, _, _, _, _⟩) (v := ?_) rfl (by kernel_rfl) (by kernel_rfl) (by kernel_rfl) (fun _ _ _ h => h) (Or.inl ⟨by rfl, ?_⟩) hHeld ?_
  rotate_left
  · intro w hSw
    go_simp
    try with_reducible rfl
  try simp only [Act.put, List.setIfInBounds_toArray, List.set_cons_zero, List.set_cons_succ]
  refine wpAnyH_take (i := 6) (oi := ⟨some 34, _, _, _, _, _⟩) (v := ?_) rfl (by kernel_rfl) (by kernel_rfl) (by kernel_rfl) (fun _ _ _ h => h) (Or.inl ⟨by rfl, ?_⟩) hHeld ?_
  rotate_left
  · intro w hSw
    go_simp
    try with_reducible rfl
  try simp only [Act.put, List.setIfInBounds_toArray, List.set_cons_zero, List.set_cons_succ]
  refine wpAnyH_take (i := 7) (oi := ⟨some 35, _, _, _, _, _⟩) (v := ?_) rfl (by kernel_rfl) (by kernel_rfl) (by kernel_rfl) (fun _ _ _ h => h) (Or.inl ⟨by rfl, ?_⟩) hHeld ?_
  rotate_left
  · intro w hSw
    go_simp
    try with_reducible rfl
  try simp only [Act.put, List.setIfInBounds_toArray, List.set_cons_zero, List.set_cons_succ]
  refine wpAnyH_take (i := 8) (oi := ⟨some 36, _, _, _, _, _⟩) (v := ?_) rfl (by kernel_rfl) (by kernel_rfl) (by kernel_rfl) (fun _ _ _ h => h) (Or.inl ⟨by rfl, ?_⟩) hHeld ?_
  rotate_left
  · intro w hSw
    go_simp
    try with_reducible rfl
  try simp only [Act.put, List.setIfInBounds_toArray, List.set_cons_zero, List.set_cons_succ]
  refine wpAnyH_take (i := 9) (oi := ⟨some 37, _, _, _, _, _⟩) (v := ?_) rfl (by kernel_rfl) (by kernel_rfl) (by kernel_rfl) (fun _ _ _ h => h) (Or.inl ⟨by rfl, ?_⟩) hHeld ?_
  rotate_left
  · intro w hSw
    go_simp
    try with_reducible rfl
  try simp only [Act.put, List.setIfInBounds_toArray, List.set_cons_zero, List.set_cons_succ]
  refine wpAnyH_take (i := 10) (oi := ⟨some 38, _, _, _, _, _⟩) (v := ?_) rfl (by kernel_rfl) (by kernel_rfl) (by kernel_rfl) (fun _ _ _ h => h) (Or.inl ⟨by rfl, ?_⟩) hHeld ?_
  rotate_left
  · intro w hSw
    obtain ⟨k0, k1⟩ := HLE.out w hSw
    go_simp
    try with_reducible rfl
  try simp only [Act.put, List.setIfInBounds_toArray, List.set_cons_zero, List.set_cons_succ]
  refine wpAnyH_ready (rs := [5]) (by kernel_rfl) (by simp) ?_
  refine AllReadyH.cons rfl (fun K hK => ?_) AllReadyH.nil
  go_simp
  go_wp2_with (go_at_call 76; go_must (refine (CB.out _ (HP3.out.below hHeld)).mono ?_; rintro e w5 ⟨rfl, rfl⟩))
  refine hK.out _ _ (hHeld) (fun hHeld => ?_)
  clear hK K
  refine wpAnyH_take (i := 11) (oi := ⟨some 39, _, _, _, _, _⟩) (v := ?_) rfl (by kernel_rfl) (by kernel_rfl) (by kernel_rfl) (fun _ _ _ h => h) (Or.inl ⟨by rfl, ?_⟩) hHeld ?_
  rotate_left
  · intro w hSw
    go_simp
    try with_reducible rfl
  try simp only [Act.put, List.setIfInBounds_toArray, List.set_cons_zero, List.set_cons_succ]
  refine wpAnyH_done (by kernel_rfl) ?_ _
  have HP4 : Hid (Pol v3.drew A F S) := Lib.hid HP3.out.drew
  have X4 : Hid (v3.drew.heap[w.heap.size]? = some (.cells x 68 (0, 0))) := Lib.hid X3.out
  have R5 : Hid (v3.drew.heap[w.heap.size + 1]? = some (.cells dr 41 (0, 0))) := Lib.hid R4.out
  have B4 : Hid (Below w.heap.size w v3.drew) := Lib.hid B3.out.drew
  clear hHeld HLE HP3 X3 R4 B3 CB
  generalize v3.drew = v4 at *
  have hlf := HXF.out.load HFS.out X4.out
  go_wp2_with ((with_reducible refine arm_load 70 69 58 _ _ hlf ?_ ?_); rfl)
  refine (CI.out _ HP4.out).mono ?_
  rintro e v5 ⟨⟨v, rfl, g, c, rfl, hge, hgc⟩, hB5⟩
  have HP5 := Lib.hid (HP4.out.below hB5)
  have X5 := Lib.hid (keep_block hB5 X4.out)
  have R6 := Lib.hid (keep_block hB5 R5.out)
  have B5 := Lib.hid (B4.out.trans (hB5.mono B4.out.size))
  have hv0 : A.v0 < A.lim := HO.out.lt HO.out.b0.2 (by omega)
  have hgv : g ≠ A.v0 := by
    have := B4.out.size
    omega
  have k24 := HP5.out.c24
  have CT5 := Lib.hid (CT.out v5 g c HP5.out hgc)
  have HGC := Lib.hid hgc
  clear hB5 hlf HP4 X4 R5 B4 CI hgc CT
  go_wp2_with fail
  refine CT5.out.mono ?_
  rintro e v6 ⟨rfl, hP6, hT6⟩
  have HP6 := Lib.hid hP6
  have hx6 : w.heap.size ≠ A.v0 := by omega
  have hr6 : w.heap.size + 1 ≠ A.v0 := by omega
  have X6 := Lib.hid ((hT6.block _ (Array.getElem?_eq_some_iff.1 X5.out).1 hx6 hx6).trans X5.out)
  have R7 := Lib.hid ((hT6.block _ (Array.getElem?_eq_some_iff.1 R6.out).1 hr6 hr6).trans R6.out)
  have hgb := World.block_lt_of_cell? _ _ HGC.out
  have HG6 : Hid (∀ w', Below v6.heap.size v6 w' → w'.cell? ⟨g, 0, none⟩ = some (.int .i64 (k : Nat))) := Lib.hid fun w' q => by
    rw [q.cell (p := ⟨g, 0, none⟩) (Nat.lt_of_lt_of_le hgb hT6.size), World.cell?_of_block (hT6.block g hgb hgv hgv)]
    exact HGC.out
  have hve : A.tg A.v0 = 6 := HO.out.b0.2
  have hvv : vb ≠ A.v0 := by
    intro e
    rw [e, hve] at HVT
    have := HVT.out
    omega
  have V6 : Hid (v6.heap[vb]? = some (.cells V 35 (0, 0))) := Lib.hid ((hT6.block _ (Nat.lt_of_lt_of_le hvlt B5.out.size) hvv hvv).trans ((B5.out.block vb hvlt).trans HVB.out))
  have T6 : Hid (Tur A.tg [3, 4, 5, 6, 7] w v6) := Lib.hid ((Tur.of_below B5.out).trans (Tur.of_two hT6 (by simp [hve]) (by simp [hve])))
  clear hP6 hT6 CT5 k24 HP5 X5 R6 B5 HGC
  have HLM : Hid (∀ w', Below v6.heap.size v6 w' → w'.cell? ⟨A.pb, 24, none⟩ = some (.pointer (some ⟨A.u0, 0, none⟩)) ∧ w'.cell? ⟨w.heap.size + 1, 1, none⟩ = some (.int .u64 d1)) := Lib.hid fun w' q => ⟨(HP6.out.below q).c24, cells_of_row (keep_block q R7.out) 1 _ HDD.out⟩
  go_wp2_with fail
  refine wp_region_held_drew (S := Below v6.heap.size v6) (by kernel_rfl) (Below.refl _ _).drew (fun hHeld => ?_)
  refine wpAnyH_take (i := 0) (oi := ⟨some 81, _, _, _, _, _⟩) (v := ?_) rfl (by kernel_rfl) (by kernel_rfl) (by kernel_rfl) (fun _ _ _ h => h) (Or.inl ⟨by rfl, ?_⟩) hHeld ?_
  rotate_left
  · intro w hSw
    go_simp
    try with_reducible rfl
  try simp only [Act.put, List.setIfInBounds_toArray, List.set_cons_zero, List.set_cons_succ]
  refine wpAnyH_take (i := 1) (oi := ⟨some 82, _, _, _, _, _⟩) (v := ?_) rfl (by kernel_rfl) (by kernel_rfl) (by kernel_rfl) (fun _ _ _ h => h) (Or.inl ⟨by rfl, ?_⟩) hHeld ?_
  rotate_left
  · intro w hSw
    obtain ⟨k0, k1⟩ := HLM.out w hSw
    go_simp
    try with_reducible rfl
  try simp only [Act.put, List.setIfInBounds_toArray, List.set_cons_zero, List.set_cons_succ]
  refine wpAnyH_take (i := 2) (oi := ⟨some 83, _, _, _, _, _⟩) (v := ?_) rfl (by kernel_rfl) (by kernel_rfl) (by kernel_rfl) (fun _ _ _ h => h) (Or.inl ⟨by rfl, ?_⟩) hHeld ?_
  rotate_left
  · intro w hSw
    go_simp
    try with_reducible rfl
  try simp only [Act.put, List.setIfInBounds_toArray, List.set_cons_zero, List.set_cons_succ]
  refine wpAnyH_take (i := 3) (oi := ⟨some 84, _, _, _, _, _⟩) (v := ?_) rfl (by kernel_rfl) (by kernel_rfl) (by kernel_rfl) (fun _ _ _ h => h) (Or.inl ⟨by rfl, ?_⟩) hHeld ?_
  rotate_left
  · intro w hSw
    go_simp
    try with_reducible rfl
  try simp only [Act.put, List.setIfInBounds_toArray, List.set_cons_zero, List.set_cons_succ]
  refine wpAnyH_take (i := 4) (oi := ⟨some 85, _, _, _, _, _⟩) (v := ?_) rfl (by kernel_rfl) (by kernel_rfl) (by kernel_rfl) (fun _ _ _ h => h) (Or.inl ⟨by rfl, ?_⟩) hHeld ?_
  rotate_left
  · intro w hSw
    go_simp
    try with_reducible rfl
  try simp only [Act.put, List.setIfInBounds_toArray, List.set_cons_zero, List.set_cons_succ]
  refine wpAnyH_take (i := 5) (oi := ⟨some 86, _, _, _, _, _⟩) (v := ?_) rfl (by kernel_rfl) (by kernel_rfl) (by kernel_rfl) (fun _ _ _ h => h) (Or.inl ⟨by rfl, ?_⟩) hHeld ?_
  rotate_left
  · intro w hSw
    go_simp
    try with_reducible rfl
  try simp only [Act.put, List.setIfInBounds_toArray, List.set_cons_zero, List.set_cons_succ]
  refine wpAnyH_take (i := 6) (oi := ⟨some 87, _, _, _, _, _⟩) (v := ?_) rfl (by kernel_rfl) (by kernel_rfl) (by kernel_rfl) (fun _ _ _ h => h) (Or.inl ⟨by rfl, ?_⟩) hHeld ?_
  rotate_left
  · intro w hSw
    go_simp
    try with_reducible rfl
  try simp only [Act.put, List.setIfInBounds_toArray, List.set_cons_zero, List.set_cons_succ]
  refine wpAnyH_take (i := 7) (oi := ⟨some 88, _, _, _, _, _⟩) (v := ?_) rfl (by kernel_rfl) (by kernel_rfl) (by kernel_rfl) (fun _ _ _ h => h) (Or.inl ⟨by rfl, ?_⟩) hHeld ?_
  rotate_left
  · intro w hSw
    go_simp
    try with_reducible rfl
  try simp only [Act.put, List.setIfInBounds_toArray, List.set_cons_zero, List.set_cons_succ]
  refine wpAnyH_take (i := 8) (oi := ⟨some 89, _, _, _, _, _⟩) (v := ?_) rfl (by kernel_rfl) (by kernel_rfl) (by kernel_rfl) (fun _ _ _ h => h) (Or.inl ⟨by rfl, ?_⟩) hHeld ?_
  rotate_left
  · intro w hSw
    go_simp
    try with_reducible rfl
  try simp only [Act.put, List.setIfInBounds_toArray, List.set_cons_zero, List.set_cons_succ]
  refine wpAnyH_take (i := 9) (oi := ⟨some 90, _, _, _, _, _⟩) (v := ?_) rfl (by kernel_rfl) (by kernel_rfl) (by kernel_rfl) (fun _ _ _ h => h) (Or.inl ⟨by rfl, ?_⟩) hHeld ?_
  rotate_left
  · intro w hSw
    obtain ⟨k0, k1⟩ := HLM.out w hSw
    go_simp
    try with_reducible rfl
  try simp only [Act.put, List.setIfInBounds_toArray, List.set_cons_zero, List.set_cons_succ]
  refine wpAnyH_take (i := 10) (oi := ⟨some 91, _, _, _, _, _⟩) (v := ?_) rfl (by kernel_rfl) (by kernel_rfl) (by kernel_rfl) (fun _ _ _ h => h) (Or.inl ⟨by rfl, ?_⟩) hHeld ?_
  rotate_left
  · intro w hSw
    go_simp
    try with_reducible rfl
  try simp only [Act.put, List.setIfInBounds_toArray, List.set_cons_zero, List.set_cons_succ]
  refine wpAnyH_ready (rs := [11]) (by kernel_rfl) (by simp) ?_
  refine AllReadyH.cons rfl (fun K hK => ?_) AllReadyH.nil
  go_simp
  go_wp2_with (go_at_call 82; go_must (refine (CM.out _ g c (HP6.out.below hHeld) (HG6.out _ hHeld)).mono ?_; rintro e w11 ⟨rfl, hB⟩))
  refine hK.out _ _ (hHeld.trans (hB.mono hHeld.size)) (fun hHeld => ?_)
  clear hK K
  refine wpAnyH_take (i := 12) (oi := ⟨some 93, _, _, _, _, _⟩) (v := ?_) rfl (by kernel_rfl) (by kernel_rfl) (by kernel_rfl) (fun _ _ _ h => h) (Or.inl ⟨by rfl, ?_⟩) hHeld ?_
  rotate_left
  · intro w hSw
    go_simp
    try with_reducible rfl
  try simp only [Act.put, List.setIfInBounds_toArray, List.set_cons_zero, List.set_cons_succ]
  refine wpAnyH_done (by kernel_rfl) ?_ _
  have HP7 := Lib.hid (HP6.out.below hHeld)
  have X7 := Lib.hid (keep_block hHeld X6.out)
  have V7 := Lib.hid (keep_block hHeld V6.out)
  have T7 : Hid (Tur (C.exc A.tg vb 3) [3, 4, 5, 6, 7] w w11) := Lib.hid (Tur.exc (T6.out.trans (Tur.of_below hHeld)) (by simp))
  clear hB hHeld HLM HP6 X6 V6 T6 HG6 CM R7
  obtain ⟨vc, hvc⟩ : ∃ z, V[2]? = some z := ⟨_, Array.getElem?_eq_getElem (by rw [HVS.out]; omega)⟩
  have kv := cells_of_row V7.out 2 _ hvc
  have fv := frozen_of_row _ _ 2 _ _ V7.out
  have T8 : Hid (Tur (C.exc A.tg vb 3) [3, 4, 5, 6, 7] w (w11.setCell ⟨vb, 2, none⟩ (.int .i64 (cl : Nat)))) := Lib.hid (Tur.set T7.out (by simp))
  have hT0 : Tur A.tg [0] w11 (w11.setCell ⟨vb, 2, none⟩ (.int .i64 (cl : Nat))) := Tur.of_two (Two.setCell (g := vb) (h := vb) (x := ⟨vb, 2, none⟩) (Two.refl _ _ _) (.inl rfl) _) (by simp [HVT.out]) (by simp [HVT.out])
  have HP8 := Lib.hid (HP7.out.tur hT0 (by intro j hj1 hj2; simp; omega))
  have hvx : w.heap.size ≠ vb := by omega
  have X8 := Lib.hid ((heap_setCell_other w11 ⟨vb, 2, none⟩ w.heap.size (.int .i64 (cl : Nat)) hvx).trans X7.out)
  have V8 := Lib.hid (heap_setCell_same w11 vb 2 _ _ (.int .i64 (cl : Nat)) V7.out)
  have hlx := pkt_load X8.out HXP.out.pk
  clear V7 T7 HP7 X7 hT0
  go_wp2_with ((with_reducible refine arm_load 100 6 68 _ _ hlx ?_ ?_); rfl)
  refine (CJ.out _ HP8.out).mono ?_
  rintro e w13 ⟨rfl, hP, hT⟩
  have HP9 := Lib.hid hP
  have V9 := Lib.hid (hT.keep V8.out (by rw [HVT.out]; simp))
  have T9 := Lib.hid (T8.out.trans (Tur.exc hT (by simp)))
  clear hP hT V8 T8 HP8 hlx CJ X8 kv fv
  go_wp2
  go_ret
  exact ⟨rfl, HP9.out, V9.out, T9.out⟩
end
end Go.Proofs.YtpanmfdbdgecaaaGreat.C
