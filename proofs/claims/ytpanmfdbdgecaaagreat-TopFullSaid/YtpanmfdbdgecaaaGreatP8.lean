/- Numbers: Mul; tokens: at, Take. · The box: Put. · The box: Take. -/
import Derived.Test.YtpanmfdbdgecaaaGreatP7
namespace Go.Proofs.YtpanmfdbdgecaaaGreat.C
open Go.RowKit
set_option linter.unusedVariables false
/-- The product of counts. -/
def mulC (x y : Int) : Int := if cnt x = 0 ∨ cnt y = 0 then 0 else if 4611686018427387904 / cnt y < cnt x then 4611686018427387904 else cnt x * cnt y
theorem num_mul (x y : Int) (w : World) : Calls Tryz.prog 89 #[.int .i64 x, .int .i64 y] w fun e w' => e = .returned (.int .i64 (mulC x y)) ∧ w' = w := by
  obtain ⟨a, ha⟩ : ∃ a, cnt x = a := ⟨_, rfl⟩
  obtain ⟨b, hb⟩ : ∃ b, cnt y = b := ⟨_, rfl⟩
  have CX : Hid (∀ w, Calls Tryz.prog 105 #[.int .i64 x] w fun e w' => e = .returned (.int .i64 a) ∧ w' = w) := by rw [← ha]; exact Lib.hid (num_count x)
  have CY : Hid (∀ w, Calls Tryz.prog 105 #[.int .i64 y] w fun e w' => e = .returned (.int .i64 b) ∧ w' = w) := by rw [← hb]; exact Lib.hid (num_count y)
  have hx := cnt_range x
  have hy := cnt_range y
  unfold mulC
  rw [ha] at hx ⊢
  rw [hb] at hy ⊢
  clear ha hb
  by_cases h0 : a = 0
  · subst h0
    rw [if_pos (.inl rfl)]
    go_enter Tryz.func89, Tryz.ntmps89
    go_wp2_with fail
    refine (CX.out _).mono ?_
    rintro e w1 ⟨rfl, rfl⟩
    go_wp2_with fail
    refine (CY.out _).mono ?_
    rintro e w2 ⟨rfl, rfl⟩
    go_wp2
    go_ret
    exact ⟨rfl, rfl⟩
  · have d0 : (a == 0) = false := by simpa using h0
    by_cases h1 : b = 0
    · subst h1
      rw [if_pos (.inr rfl)]
      go_enter Tryz.func89, Tryz.ntmps89
      go_wp2_with fail
      refine (CX.out _).mono ?_
      rintro e w1 ⟨rfl, rfl⟩
      go_wp2_with fail
      refine (CY.out _).mono ?_
      rintro e w2 ⟨rfl, rfl⟩
      go_wp2
      go_ret
      exact ⟨rfl, rfl⟩
    · have d1 : (b == 0) = false := by simpa using h1
      have hq : (4611686018427387904 : Int).tdiv b = 4611686018427387904 / b := Int.tdiv_eq_ediv_of_nonneg (by omega)
      have hq0 : 0 ≤ (4611686018427387904 : Int) / b := Int.ediv_nonneg (by omega) (by omega)
      have hq1 : (4611686018427387904 : Int) / b ≤ 4611686018427387904 := Int.ediv_le_self _ (by omega)
      have hwq : IntKind.i64.wrap (4611686018427387904 / b) = 4611686018427387904 / b := IntWalk.i64_in _ (by omega)
      rw [if_neg (by omega)]
      by_cases h2 : 4611686018427387904 / b < a
      · rw [if_pos h2]
        go_enter Tryz.func89, Tryz.ntmps89
        go_wp2_with fail
        refine (CX.out _).mono ?_
        rintro e w1 ⟨rfl, rfl⟩
        go_wp2_with fail
        refine (CY.out _).mono ?_
        rintro e w2 ⟨rfl, rfl⟩
        go_wp2
        go_ret
        exact ⟨rfl, rfl⟩
      · rw [if_neg h2]
        have hle : a * b ≤ 4611686018427387904 := by
          have h3 : a ≤ 4611686018427387904 / b := by omega
          have h4 : a * b ≤ 4611686018427387904 / b * b := Int.mul_le_mul_of_nonneg_right h3 (by omega)
          have h5 := Int.ediv_mul_le 4611686018427387904 h1
          omega
        have hge : 0 ≤ a * b := Int.mul_nonneg hx.1 hy.1
        have hw : IntKind.i64.wrap (a * b) = a * b := IntWalk.i64_in _ (by omega)
        have dd : decide (4611686018427387904 / b < a) = false := decide_eq_false h2
        go_enter Tryz.func89, Tryz.ntmps89
        go_wp2_with fail
        refine (CX.out _).mono ?_
        rintro e w1 ⟨rfl, rfl⟩
        go_wp2_with fail
        refine (CY.out _).mono ?_
        rintro e w2 ⟨rfl, rfl⟩
        go_wp2
        go_ret
        exact ⟨rfl, rfl⟩
/-- How many parts there are at a moment. -/
def levelT (rate most level now t : Int) : Int := if t ≤ now then level else if addC level (mulC (t - now) rate) < most then addC level (mulC (t - now) rate) else most
theorem TkAt.cells {w : World} {b : Nat} {rate most level now : Int} (h : TkAt w b rate most level now) : w.cell? ⟨b, 0, none⟩ = some (.int .i64 rate) ∧ w.cell? ⟨b, 1, none⟩ = some (.int .i64 most) ∧ w.cell? ⟨b, 2, none⟩ = some (.int .i64 level) ∧ w.cell? ⟨b, 3, none⟩ = some (.int .i64 now) := by
  unfold TkAt at h
  rw [cell_of_row _ _ _ _ _ _ h, cell_of_row _ _ _ _ _ _ h, cell_of_row _ _ _ _ _ _ h, cell_of_row _ _ _ _ _ _ h]
  exact ⟨rfl, rfl, rfl, rfl⟩
theorem TkAt.below {w w' : World} {b : Nat} {rate most level now : Int} (h : TkAt w b rate most level now) (p : Below w.heap.size w w') : TkAt w' b rate most level now := keep_block p h
set_option maxRecDepth 100000 in
theorem token_at (b : Nat) (rate most level now t : Int) (w : World) (h : TkAt w b rate most level now) (h0 : 0 ≤ now) (h1 : 0 ≤ t) (h2 : t ≤ 4611686018427387904) :
    Calls Tryz.prog 130 #[.pointer (some ⟨b, 0, none⟩), .int .i64 t] w fun e w' => e = .returned (.int .i64 (levelT rate most level now t)) ∧ Below w.heap.size w w' := by
  obtain ⟨c0, c1, c2, c3⟩ := h.cells
  unfold levelT
  by_cases ht : t ≤ now
  · rw [if_pos ht]
    go_enter Tryz.func130, Tryz.ntmps130
    go_wp2
    go_ret
    exact ⟨rfl, Below.refl _ _⟩
  · rw [if_neg ht]
    have hd : decide (t ≤ now) = false := decide_eq_false ht
    have hw : IntKind.i64.wrap (t - now) = t - now := IntWalk.i64_in _ (by omega)
    have CM := Lib.hid (num_mul (t - now) rate)
    generalize mulC (t - now) rate = m at *
    have CA := Lib.hid (num_add level m)
    generalize addC level m = s at *
    have HF : Hid (∀ w', Below w.heap.size w w' → w'.cell? ⟨b, 0, none⟩ = some (.int .i64 rate) ∧ w'.cell? ⟨b, 1, none⟩ = some (.int .i64 most) ∧ w'.cell? ⟨b, 2, none⟩ = some (.int .i64 level) ∧ w'.cell? ⟨b, 3, none⟩ = some (.int .i64 now)) := Lib.hid fun w' p => (h.below p).cells
    clear h
    go_enter Tryz.func130, Tryz.ntmps130
    go_wp2_with fail
    refine wp_region_held_drew (S := Below w.heap.size w) (by kernel_rfl) (Below.refl _ _).drew (fun hHeld => ?_)
    refine wpAnyH_take (i := 0) (oi := ⟨some 15, _, _, _, _, _⟩) (v := ?_) rfl (by kernel_rfl) (by kernel_rfl) (by kernel_rfl) (fun _ _ _ h => h) (Or.inl ⟨by rfl, ?_⟩) hHeld ?_
    rotate_left
    · intro w hSw
      go_simp
      try with_reducible rfl
    try simp only [Act.put, List.setIfInBounds_toArray, List.set_cons_zero, List.set_cons_succ]
    refine wpAnyH_take (i := 1) (oi := ⟨some 16, _, _, _, _, _⟩) (v := ?_) rfl (by kernel_rfl) (by kernel_rfl) (by kernel_rfl) (fun _ _ _ h => h) (Or.inl ⟨by rfl, ?_⟩) hHeld ?_
    rotate_left
    · intro w hSw
      go_simp
      try with_reducible rfl
    try simp only [Act.put, List.setIfInBounds_toArray, List.set_cons_zero, List.set_cons_succ]
    refine wpAnyH_take (i := 2) (oi := ⟨some 17, _, _, _, _, _⟩) (v := ?_) rfl (by kernel_rfl) (by kernel_rfl) (by kernel_rfl) (fun _ _ _ h => h) (Or.inl ⟨by rfl, ?_⟩) hHeld ?_
    rotate_left
    · intro w hSw
      go_simp
      try with_reducible rfl
    try simp only [Act.put, List.setIfInBounds_toArray, List.set_cons_zero, List.set_cons_succ]
    refine wpAnyH_take (i := 3) (oi := ⟨some 18, _, _, _, _, _⟩) (v := ?_) rfl (by kernel_rfl) (by kernel_rfl) (by kernel_rfl) (fun _ _ _ h => h) (Or.inl ⟨by rfl, ?_⟩) hHeld ?_
    rotate_left
    · intro w hSw
      obtain ⟨k0, k1, k2, k3⟩ := HF.out w hSw
      go_simp
      try with_reducible rfl
    try simp only [Act.put, List.setIfInBounds_toArray, List.set_cons_zero, List.set_cons_succ]
    refine wpAnyH_take (i := 4) (oi := ⟨some 19, _, _, _, _, _⟩) (v := ?_) rfl (by kernel_rfl) (by kernel_rfl) (by kernel_rfl) (fun _ _ _ h => h) (Or.inl ⟨by rfl, ?_⟩) hHeld ?_
    rotate_left
    · intro w hSw
      go_simp
      try with_reducible rfl
    try simp only [Act.put, List.setIfInBounds_toArray, List.set_cons_zero, List.set_cons_succ]
    refine wpAnyH_take (i := 5) (oi := ⟨some 20, _, _, _, _, _⟩) (v := ?_) rfl (by kernel_rfl) (by kernel_rfl) (by kernel_rfl) (fun _ _ _ h => h) (Or.inl ⟨by rfl, ?_⟩) hHeld ?_
    rotate_left
    · intro w hSw
      go_simp
      try with_reducible rfl
    try simp only [Act.put, List.setIfInBounds_toArray, List.set_cons_zero, List.set_cons_succ]
    refine wpAnyH_take (i := 6) (oi := ⟨some 21, _, _, _, _, _⟩) (v := ?_) rfl (by kernel_rfl) (by kernel_rfl) (by kernel_rfl) (fun _ _ _ h => h) (Or.inl ⟨by rfl, ?_⟩) hHeld ?_
    rotate_left
    · intro w hSw
      go_simp
      try with_reducible rfl
    try simp only [Act.put, List.setIfInBounds_toArray, List.set_cons_zero, List.set_cons_succ]
    refine wpAnyH_take (i := 7) (oi := ⟨some 22, _, _, _, _, _⟩) (v := ?_) rfl (by kernel_rfl) (by kernel_rfl) (by kernel_rfl) (fun _ _ _ h => h) (Or.inl ⟨by rfl, ?_⟩) hHeld ?_
    rotate_left
    · intro w hSw
      obtain ⟨k0, k1, k2, k3⟩ := HF.out w hSw
      go_simp
      try with_reducible rfl
    try simp only [Act.put, List.setIfInBounds_toArray, List.set_cons_zero, List.set_cons_succ]
    refine wpAnyH_take (i := 8) (oi := ⟨some 23, _, _, _, _, _⟩) (v := ?_) rfl (by kernel_rfl) (by kernel_rfl) (by kernel_rfl) (fun _ _ _ h => h) (Or.inl ⟨by rfl, ?_⟩) hHeld ?_
    rotate_left
    · intro w hSw
      go_simp
      try with_reducible rfl
    try simp only [Act.put, List.setIfInBounds_toArray, List.set_cons_zero, List.set_cons_succ]
    refine wpAnyH_take (i := 9) (oi := ⟨some 24, _, _, _, _, _⟩) (v := ?_) rfl (by kernel_rfl) (by kernel_rfl) (by kernel_rfl) (fun _ _ _ h => h) (Or.inl ⟨by rfl, ?_⟩) hHeld ?_
    rotate_left
    · intro w hSw
      go_simp
      try with_reducible rfl
    try simp only [Act.put, List.setIfInBounds_toArray, List.set_cons_zero, List.set_cons_succ]
    refine wpAnyH_take (i := 10) (oi := ⟨some 25, _, _, _, _, _⟩) (v := ?_) rfl (by kernel_rfl) (by kernel_rfl) (by kernel_rfl) (fun _ _ _ h => h) (Or.inl ⟨by rfl, ?_⟩) hHeld ?_
    rotate_left
    · intro w hSw
      go_simp
      try with_reducible rfl
    try simp only [Act.put, List.setIfInBounds_toArray, List.set_cons_zero, List.set_cons_succ]
    refine wpAnyH_take (i := 11) (oi := ⟨some 26, _, _, _, _, _⟩) (v := ?_) rfl (by kernel_rfl) (by kernel_rfl) (by kernel_rfl) (fun _ _ _ h => h) (Or.inl ⟨by rfl, ?_⟩) hHeld ?_
    rotate_left
    · intro w hSw
      go_simp
      try with_reducible rfl
    try simp only [Act.put, List.setIfInBounds_toArray, List.set_cons_zero, List.set_cons_succ]
    refine wpAnyH_take (i := 12) (oi := ⟨some 27, _, _, _, _, _⟩) (v := ?_) rfl (by kernel_rfl) (by kernel_rfl) (by kernel_rfl) (fun _ _ _ h => h) (Or.inl ⟨by rfl, ?_⟩) hHeld ?_
    rotate_left
    · intro w hSw
      obtain ⟨k0, k1, k2, k3⟩ := HF.out w hSw
      go_simp
      try with_reducible rfl
    try simp only [Act.put, List.setIfInBounds_toArray, List.set_cons_zero, List.set_cons_succ]
    refine wpAnyH_take (i := 13) (oi := ⟨some 28, _, _, _, _, _⟩) (v := ?_) rfl (by kernel_rfl) (by kernel_rfl) (by kernel_rfl) (fun _ _ _ h => h) (Or.inl ⟨by rfl, ?_⟩) hHeld ?_
    rotate_left
    · intro w hSw
      go_simp
      try with_reducible rfl
    try simp only [Act.put, List.setIfInBounds_toArray, List.set_cons_zero, List.set_cons_succ]
    refine wpAnyH_take (i := 14) (oi := ⟨some 29, _, _, _, _, _⟩) (v := ?_) rfl (by kernel_rfl) (by kernel_rfl) (by kernel_rfl) (fun _ _ _ h => h) (Or.inl ⟨by rfl, ?_⟩) hHeld ?_
    rotate_left
    · intro w hSw
      go_simp
      try with_reducible rfl
    try simp only [Act.put, List.setIfInBounds_toArray, List.set_cons_zero, List.set_cons_succ]
    refine wpAnyH_take (i := 15) (oi := ⟨some 30, _, _, _, _, _⟩) (v := ?_) rfl (by kernel_rfl) (by kernel_rfl) (by kernel_rfl) (fun _ _ _ h => h) (Or.inl ⟨by rfl, ?_⟩) hHeld ?_
    rotate_left
    · intro w hSw
      go_simp
      try with_reducible rfl
    try simp only [Act.put, List.setIfInBounds_toArray, List.set_cons_zero, List.set_cons_succ]
    refine wpAnyH_take (i := 16) (oi := ⟨some 31, _, _, _, _, _⟩) (v := ?_) rfl (by kernel_rfl) (by kernel_rfl) (by kernel_rfl) (fun _ _ _ h => h) (Or.inl ⟨by rfl, ?_⟩) hHeld ?_
    rotate_left
    · intro w hSw
      go_simp
      try with_reducible rfl
    try simp only [Act.put, List.setIfInBounds_toArray, List.set_cons_zero, List.set_cons_succ]
    refine wpAnyH_take (i := 17) (oi := ⟨some 32, _, _, _, _, _⟩) (v := ?_) rfl (by kernel_rfl) (by kernel_rfl) (by kernel_rfl) (fun _ _ _ h => h) (Or.inl ⟨by rfl, ?_⟩) hHeld ?_
    rotate_left
    · intro w hSw
      obtain ⟨k0, k1, k2, k3⟩ := HF.out w hSw
      go_simp
      try with_reducible rfl
    try simp only [Act.put, List.setIfInBounds_toArray, List.set_cons_zero, List.set_cons_succ]
    refine wpAnyH_ready (rs := [18]) (by kernel_rfl) (by simp) ?_
    refine AllReadyH.cons rfl (fun K hK => ?_) AllReadyH.nil
    go_simp
    go_wp2_with (go_at_call 89; go_must (refine (CM.out _).mono ?_; rintro e w18 ⟨rfl, rfl⟩))
    refine hK.out _ _ (hHeld) (fun hHeld => ?_)
    clear hK K
    refine wpAnyH_ready (rs := [19]) (by kernel_rfl) (by simp) ?_
    refine AllReadyH.cons rfl (fun K hK => ?_) AllReadyH.nil
    go_simp
    refine hK.out _ _ (((Below.refl _ _).alloc (Nat.le_refl _) _).drew) (fun hHeld => ?_)
    clear hK K
    refine wpAnyH_ready (rs := [20]) (by kernel_rfl) (by simp) ?_
    refine AllReadyH.cons rfl (fun K hK => ?_) AllReadyH.nil
    go_simp
    go_wp2_with (go_at_call 51; go_must (refine (CA.out w.heap.size (w.alloc (.cells #[.int .i64 level, .int .i64 m] 2)).drew (new_c0 w _ _ _) (new_c1 w _ _ _)).mono ?_; rintro e w20 ⟨rfl, rfl⟩))
    refine hK.out _ _ (hHeld) (fun hHeld => ?_)
    clear hK K
    refine wpAnyH_take (i := 21) (oi := ⟨some 36, _, _, _, _, _⟩) (v := ?_) rfl (by kernel_rfl) (by kernel_rfl) (by kernel_rfl) (fun _ _ _ h => h) (Or.inl ⟨by rfl, ?_⟩) hHeld ?_
    rotate_left
    · intro w hSw
      go_simp
      try with_reducible rfl
    try simp only [Act.put, List.setIfInBounds_toArray, List.set_cons_zero, List.set_cons_succ]
    refine wpAnyH_take (i := 22) (oi := ⟨some 4, _, _, _, _, _⟩) (v := ?_) rfl (by kernel_rfl) (by kernel_rfl) (by kernel_rfl) (fun _ _ _ h => h) (Or.inl ⟨by rfl, ?_⟩) hHeld ?_
    rotate_left
    · intro w hSw
      go_simp
      try with_reducible rfl
    try simp only [Act.put, List.setIfInBounds_toArray, List.set_cons_zero, List.set_cons_succ]
    refine wpAnyH_done (by kernel_rfl) ?_ _
    go_wp2
    all_goals
      go_ret
      exact ⟨rfl, hHeld⟩
theorem levelT_range {rate most level now t : Int} (hl : 0 ≤ level ∧ level ≤ 1125899906842624) (hm : 0 ≤ most ∧ most ≤ 1125899906842624) : 0 ≤ levelT rate most level now t ∧ levelT rate most level now t ≤ 1125899906842624 := by
  have := addC_range level (mulC (t - now) rate)
  unfold levelT
  split
  · omega
  · split <;> omega
/-- May so many be taken? -/
def takesT (lv n : Int) : Bool := decide (0 ≤ n ∧ n ≤ 1073741824 ∧ n * 1048576 ≤ lv)
set_option maxRecDepth 100000 in
theorem token_take (b : Nat) (rate most level now t n : Int) (w : World) (h : TkAt w b rate most level now) (h0 : 0 ≤ now) (h1 : 0 ≤ t) (h2 : t ≤ 4611686018427387904) (hl : 0 ≤ level ∧ level ≤ 1125899906842624) (hm : 0 ≤ most ∧ most ≤ 1125899906842624) :
    Calls Tryz.prog 71 #[.pointer (some ⟨b, 0, none⟩), .int .i64 t, .int .i64 n] w fun e w' => e = .returned (.bool (takesT (levelT rate most level now t) n)) ∧ TkAt w' b rate most (if takesT (levelT rate most level now t) n then levelT rate most level now t - n * 1048576 else levelT rate most level now t) (if now < t then t else now) ∧ Two b b w w' := by
  have CA := Lib.hid (token_at b rate most level now t w h h0 h1 h2)
  have hr := levelT_range (rate := rate) (now := now) (t := t) hl hm
  have HH := Lib.hid h
  clear h
  generalize levelT rate most level now t = lv at *
  obtain ⟨mx, hmx⟩ : ∃ mx, (if now < t then t else now) = mx := ⟨_, rfl⟩
  rw [hmx]
  have fin : ∀ w1 (lv' : Int), Below w.heap.size w w1 → TkAt ((w1.setCell ⟨b, 2, none⟩ (.int .i64 lv')).setCell ⟨b, 3, none⟩ (.int .i64 mx)) b rate most lv' mx ∧ Two b b w ((w1.setCell ⟨b, 2, none⟩ (.int .i64 lv')).setCell ⟨b, 3, none⟩ (.int .i64 mx)) := by
    intro w1 lv' hB
    have hb := keep_block hB HH.out
    have k0 := heap_setCell_same _ _ 2 _ _ (.int .i64 lv') hb
    have k1 := heap_setCell_same _ _ 3 _ _ (.int .i64 mx) k0
    have t1 : Two b b w (w1.setCell ⟨b, 2, none⟩ (.int .i64 lv')) := Two.setCell (g := b) (h := b) (x := ⟨b, 2, none⟩) (two_ofB hB) (.inl rfl) _
    have t2 : Two b b w ((w1.setCell ⟨b, 2, none⟩ (.int .i64 lv')).setCell ⟨b, 3, none⟩ (.int .i64 mx)) := Two.setCell (g := b) (h := b) (x := ⟨b, 3, none⟩) t1 (.inl rfl) _
    exact ⟨k1, t2⟩
  have fin2 : ∀ w1 (lv' lv2 : Int), Below w.heap.size w w1 → TkAt (((w1.setCell ⟨b, 2, none⟩ (.int .i64 lv')).setCell ⟨b, 3, none⟩ (.int .i64 mx)).setCell ⟨b, 2, none⟩ (.int .i64 lv2)) b rate most lv2 mx ∧ Two b b w (((w1.setCell ⟨b, 2, none⟩ (.int .i64 lv')).setCell ⟨b, 3, none⟩ (.int .i64 mx)).setCell ⟨b, 2, none⟩ (.int .i64 lv2)) := by
    intro w1 lv' lv2 hB
    obtain ⟨h1, h2⟩ := fin w1 lv' hB
    exact ⟨heap_setCell_same _ _ 2 _ _ (.int .i64 lv2) h1, Two.setCell (g := b) (h := b) (x := ⟨b, 2, none⟩) h2 (.inl rfl) _⟩
  have FIN2 := Lib.hid fin2
  have FIN := Lib.hid fin
  have hc : ∀ w1, Below w.heap.size w w1 → (w1.cell? ⟨b, 0, none⟩ = some (.int .i64 rate) ∧ w1.cell? ⟨b, 1, none⟩ = some (.int .i64 most) ∧ w1.cell? ⟨b, 2, none⟩ = some (.int .i64 level) ∧ w1.cell? ⟨b, 3, none⟩ = some (.int .i64 now)) ∧ w1.frozen? ⟨b, 2, none⟩ = false ∧ w1.frozen? ⟨b, 3, none⟩ = false := fun w1 hB =>
    ⟨(HH.out.below hB).cells, frozen_of_row _ _ _ _ _ (keep_block hB HH.out), frozen_of_row _ _ _ _ _ (keep_block hB HH.out)⟩
  have HC := Lib.hid hc
  clear fin fin2 hc hl hm
  by_cases n0 : n < 0
  · have e : takesT lv n = false := by unfold takesT; exact decide_eq_false (by omega)
    rw [e]
    go_enter Tryz.func71, Tryz.ntmps71
    go_wp2_with fail
    refine CA.out.mono ?_
    rintro e w1 ⟨rfl, hB⟩
    obtain ⟨⟨c0, c1, c2, c3⟩, f2, f3⟩ := HC.out _ hB
    have HB := Lib.hid hB
    clear hB
    go_wp2
    go_ret
    exact ⟨rfl, FIN.out _ _ HB.out⟩
  · have n0' : 0 ≤ n := by omega
    by_cases n1 : 1073741824 < n
    · have e : takesT lv n = false := by unfold takesT; exact decide_eq_false (by omega)
      rw [e]
      go_enter Tryz.func71, Tryz.ntmps71
      go_wp2_with fail
      refine CA.out.mono ?_
      rintro e w1 ⟨rfl, hB⟩
      obtain ⟨⟨c0, c1, c2, c3⟩, f2, f3⟩ := HC.out _ hB
      have HB := Lib.hid hB
      clear hB
      go_wp2
      go_ret
      exact ⟨rfl, FIN.out _ _ HB.out⟩
    · have n1' : n ≤ 1073741824 := by omega
      have hw : IntKind.i64.wrap (n * 1048576) = n * 1048576 := IntWalk.i64_in _ (by omega)
      by_cases n2 : lv < n * 1048576
      · have e : takesT lv n = false := by unfold takesT; exact decide_eq_false (by omega)
        rw [e]
        go_enter Tryz.func71, Tryz.ntmps71
        go_wp2_with fail
        refine CA.out.mono ?_
        rintro e w1 ⟨rfl, hB⟩
        obtain ⟨⟨c0, c1, c2, c3⟩, f2, f3⟩ := HC.out _ hB
        have HB := Lib.hid hB
        clear hB
        go_wp2
        go_ret
        exact ⟨rfl, FIN.out _ _ HB.out⟩
      · have e : takesT lv n = true := by unfold takesT; exact decide_eq_true (by omega)
        have n2' : n * 1048576 ≤ lv := by omega
        have hw2 : IntKind.i64.wrap (lv - n * 1048576) = lv - n * 1048576 := IntWalk.i64_in _ (by omega)
        rw [e]
        go_enter Tryz.func71, Tryz.ntmps71
        go_wp2_with fail
        refine CA.out.mono ?_
        rintro e w1 ⟨rfl, hB⟩
        obtain ⟨⟨c0, c1, c2, c3⟩, f2, f3⟩ := HC.out _ hB
        have HB := Lib.hid hB
        clear hB
        go_wp2
        all_goals
          go_ret
          refine ⟨rfl, ?_⟩
          with_reducible first
            | exact FIN2.out _ _ _ HB.out
            | exact FIN.out _ _ HB.out
end Go.Proofs.YtpanmfdbdgecaaaGreat.C

namespace Go.Proofs.YtpanmfdbdgecaaaGreat.C
open Go.RowKit
set_option linter.unusedVariables false
theorem build_ent (s : Int) (w : World) : (Instr.build 199 #[(0, .int .i64 s)]).run Tryz.prog w = .ok (.agg #[.int .i64 s, .pointer none]) w := run_build w 199 _ _ (by kernel_rfl)
theorem levelT_full {rate most t : Int} (hm : 0 ≤ most ∧ most ≤ 1125899906842624) : levelT rate most most 0 t = most := by
  unfold levelT
  split
  · rfl
  · have h1 := cnt_range (mulC (t - 0) rate)
    have h2 : most ≤ addC most (mulC (t - 0) rate) := by
      unfold addC
      rw [cnt_in hm.1 (by omega)]
      split <;> omega
    rw [if_neg (by omega)]
set_option maxRecDepth 100000 in
set_option maxHeartbeats 4000000 in
theorem box_put (xb pb b room : Nat) (l l' : List Plc) (nn nn' term rate burst now : Int) (s : Nat) (p0 p1 p2 : Nat) (w : World) (h : BxAt w xb pb b l room nn term rate burst) (hs : Sweeps xb pb b room l nn term rate burst now l' nn') (hg : Gets l' p0 p1 p2 0 none false) (hat : at1 l' p0 p1 p2 = (-1, (s : Int))) (hsl : s < l'.length) (hnr : 0 ≤ nn' ∧ nn' < room) (hr : 0 ≤ rate ∧ rate ≤ 1073741824) (hbu : 1 ≤ burst ∧ burst ≤ 1073741824) (hnow : 0 ≤ now ∧ now ≤ 4611686018427387904) :
    Calls Tryz.prog 39 #[.pointer (some ⟨xb, 0, none⟩), .agg (pfx p0 p1 p2), .int .i64 now] w fun e w' => ∃ tb : Nat, e = .returned (.int .i64 0) ∧ w.heap.size ≤ tb ∧ BxAt w' xb pb b (l'.set s ⟨1, pfx p0 p1 p2, addC now term, some tb⟩) room (nn' + 1) term rate burst ∧ TkAt w' tb rate (burst * 1048576) (burst * 1048576) now ∧ Two pb b w w' := by
  have HS := Lib.hid hs
  have HH := Lib.hid h
  have hcg := fun (w' : World) (q : TbAt w' pb b l' room nn') => table_get hg w' q
  have HCG := Lib.hid hcg
  have hcp := fun (til : Int) (tok : Option Nat) (w' : World) (q : TbAt w' pb b l' room nn') => table_put pb b room l' nn' p0 p1 p2 s til tok w' q hg.fl hg.b0.1 hg.b0.2.1 hg.b0.2.2 hg.len.1 hg.len.2 hat hsl hnr
  have HCP := Lib.hid hcp
  have hps : (Tryz.prog.info? 65).map (·.size) = some (pfx p0 p1 p2).size := pf_size
  have HPS := Lib.hid hps
  have CA := Lib.hid (num_add now term)
  have CN := Lib.hid (fun w' => token_new rate burst w' hr.1 hr.2 hbu.1 hbu.2)
  clear h hg hcg hs hps hcp hat
  generalize pfx p0 p1 p2 = p at *
  obtain ⟨til, htil⟩ : ∃ x, x = (0 : Int) := ⟨_, rfl⟩
  obtain ⟨tk, htk⟩ : ∃ x, x = (none : Option Addr) := ⟨_, rfl⟩
  obtain ⟨ok, hok⟩ : ∃ x, x = false := ⟨_, rfl⟩
  rw [← htil, ← htk, ← hok] at HCG
  clear htil htk
  subst hok
  generalize addC now term = su at *
  go_enter Tryz.func39, Tryz.ntmps39
  go_upto_region 1 with ((with_reducible refine arm_box 4 1 65 p ?_ ?_); rfl; intro w1 HB HX HS1)
  have CS := Lib.hid (HS.out w1 (HH.out.below HB.out))
  go_wp2_with fail
  refine CS.out.mono ?_
  rintro e w2 ⟨rfl, hX2, hT2⟩
  have h1 := HH.out.below HB.out
  have n1 := ne_ty HX.out h1.tb.ptr (by decide)
  have n2 := ne_ty HX.out h1.tb.row (by decide)
  have P2 := Lib.hid ((hT2.block _ (Array.getElem?_eq_some_iff.1 HX.out).1 n1 n2).trans HX.out)
  have T2 := Lib.hid (two_ofB (x := pb) (y := b) HB.out |>.trans hT2)
  have HX2 := Lib.hid hX2
  clear hX2 hT2 h1 n1 n2 CS HX HS1 HB
  have HL : Hid (∀ w', Below w2.heap.size w2 w' → w'.cell? ⟨xb, 0, none⟩ = some (.pointer (some ⟨pb, 0, none⟩)) ∧ (Instr.loadAt 65 (.pointer (some ⟨w.heap.size, 0, none⟩))).run Tryz.prog w' = .ok (.agg p) w') := Lib.hid fun w' q => ⟨(HX2.out.below q).cells.1, box_load (t := 65) (keep_block q P2.out) _ Tryz.underlying65 rfl HPS.out⟩
  have CG : Hid (∀ w', Below w2.heap.size w2 w' → Calls Tryz.prog 69 #[.pointer (some ⟨pb, 0, none⟩), .agg p] w' fun e w'' => e = .returned (.tuple #[.agg #[.int .i64 til, .pointer tk], .bool false]) ∧ Below w'.heap.size w' w'') := Lib.hid fun w' q => HCG.out w' (HX2.out.below q).tb
  go_wp2_with fail
  refine wp_region_held_drew (S := Below w2.heap.size w2) (by kernel_rfl) (Below.refl _ _).drew (fun hHeld => ?_)
  refine wpAnyH_take (i := 0) (oi := ⟨some 15, _, _, _, _, _⟩) (v := ?_) rfl (by kernel_rfl) (by kernel_rfl) (by kernel_rfl) (fun _ _ _ h => h) (Or.inl ⟨by rfl, ?_⟩) hHeld ?_
  rotate_left
  · intro w hSw
    go_simp
    try with_reducible rfl
  try simp only [Act.put, List.setIfInBounds_toArray, List.set_cons_zero, List.set_cons_succ]
  refine wpAnyH_take (i := 1) (oi := ⟨some 16, _, _, _, _, _⟩) (v := ?_) rfl (by kernel_rfl) (by kernel_rfl) (by kernel_rfl) (fun _ _ _ h => h) (Or.inl ⟨by rfl, ?_⟩) hHeld ?_
  rotate_left
  · intro w hSw
    go_simp
    try with_reducible rfl
  try simp only [Act.put, List.setIfInBounds_toArray, List.set_cons_zero, List.set_cons_succ]
  refine wpAnyH_take (i := 2) (oi := ⟨some 17, _, _, _, _, _⟩) (v := ?_) rfl (by kernel_rfl) (by kernel_rfl) (by kernel_rfl) (fun _ _ _ h => h) (Or.inl ⟨by rfl, ?_⟩) hHeld ?_
  rotate_left
  · intro w hSw
    go_simp
    try with_reducible rfl
  try simp only [Act.put, List.setIfInBounds_toArray, List.set_cons_zero, List.set_cons_succ]
  refine wpAnyH_take (i := 3) (oi := ⟨some 18, _, _, _, _, _⟩) (v := ?_) rfl (by kernel_rfl) (by kernel_rfl) (by kernel_rfl) (fun _ _ _ h => h) (Or.inl ⟨by rfl, ?_⟩) hHeld ?_
  rotate_left
  · intro w hSw
    obtain ⟨k0, _⟩ := HL.out w hSw
    go_simp
    try with_reducible rfl
  try simp only [Act.put, List.setIfInBounds_toArray, List.set_cons_zero, List.set_cons_succ]
  refine wpAnyH_take (i := 4) (oi := ⟨some 19, _, _, _, _, _⟩) (v := .agg p) rfl (by kernel_rfl) (by kernel_rfl) (by kernel_rfl) (fun _ _ _ h => h) (Or.inl ⟨by rfl, fun w hSw => exec_load rfl (HL.out w hSw).2⟩) hHeld ?_
  try simp only [Act.put, List.setIfInBounds_toArray, List.set_cons_zero, List.set_cons_succ]
  refine wpAnyH_ready (rs := [5, 9]) (by kernel_rfl) (by simp) ?_
  refine AllReadyH.cons rfl (fun K hK => ?_) (AllReadyH.cons rfl (fun K hK => ?_) AllReadyH.nil)
  · skip
    go_simp
    go_wp2_with (go_at_call 69; go_must (refine (CG.out _ hHeld).mono ?_; rintro e w5 ⟨rfl, hB⟩))
    refine hK.out _ _ (hHeld.trans (hB.mono hHeld.size)) (fun hHeld => ?_)
    clear hK K
    refine wpAnyH_take (i := 6) (oi := ⟨some 14, _, _, _, _, _⟩) (v := ?_) rfl (by kernel_rfl) (by kernel_rfl) (by kernel_rfl) (fun _ _ _ h => h) (Or.inl ⟨by rfl, ?_⟩) hHeld ?_
    rotate_left
    · intro w hSw
      go_simp
      try with_reducible rfl
    try simp only [Act.put, List.setIfInBounds_toArray, List.set_cons_zero, List.set_cons_succ]
    refine wpAnyH_take (i := 7) (oi := ⟨some 21, _, _, _, _, _⟩) (v := ?_) rfl (by kernel_rfl) (by kernel_rfl) (by kernel_rfl) (fun _ _ _ h => h) (Or.inl ⟨by rfl, ?_⟩) hHeld ?_
    rotate_left
    · intro w hSw
      go_simp
      try with_reducible rfl
    try simp only [Act.put, List.setIfInBounds_toArray, List.set_cons_zero, List.set_cons_succ]
    refine wpAnyH_take (i := 8) (oi := ⟨some 22, _, _, _, _, _⟩) (v := ?_) rfl (by kernel_rfl) (by kernel_rfl) (by kernel_rfl) (fun _ _ _ h => h) (Or.inl ⟨by rfl, ?_⟩) hHeld ?_
    rotate_left
    · intro w hSw
      go_simp
      try with_reducible rfl
    try simp only [Act.put, List.setIfInBounds_toArray, List.set_cons_zero, List.set_cons_succ]
    refine wpAnyH_ready (rs := [9]) (by kernel_rfl) (by simp) ?_
    refine AllReadyH.cons rfl (fun K hK => ?_) AllReadyH.nil
    have hS9 := hHeld.size; refine step_alloc 7 199 EZ 2 ez_zero ?_; intro W9 HB9 HX9 HS9
    refine hK.out _ _ (hHeld.trans (HB9.out.mono hHeld.size)) (fun hHeld => ?_)
    clear hK K
    refine wpAnyH_ready (rs := [10]) (by kernel_rfl) (by simp) ?_
    refine AllReadyH.cons rfl (fun K hK => ?_) AllReadyH.nil
    have HBX := Lib.hid (box_whole (cs := #[.int .i64 til, .pointer tk]) HX9.out rfl); refine step_store 7 21 199 _ _ _ (box_store (x := #[.int .i64 til, .pointer tk]) HX9.out ent_size (by kernel_rfl) rfl) rfl rfl ?_
    refine hK.out _ _ (below_setCells hS9 _ _ hHeld) (fun hHeld => ?_)
    clear hK K
    refine wpAnyH_take (i := 11) (oi := ⟨some 8, _, _, _, _, _⟩) (v := ?_) rfl (by kernel_rfl) (by kernel_rfl) (by kernel_rfl) (fun _ _ _ h => h) (Or.inl ⟨by rfl, ?_⟩) hHeld ?_
    rotate_left
    · intro w hSw
      go_simp
      try with_reducible rfl
    try simp only [Act.put, List.setIfInBounds_toArray, List.set_cons_zero, List.set_cons_succ]
    refine wpAnyH_done (by kernel_rfl) ?_ _
    have HE := Lib.hid hHeld
    clear hHeld
    try simp only [Act.put, List.setIfInBounds_toArray, List.set_cons_zero, List.set_cons_succ]
    generalize World.setCells _ _ 0 (#[.int .i64 til, .pointer tk] : Array Value).toList = wE at *
    have kt := (HX2.out.below HE.out).cells.2.1
    clear HBX
    go_wp2_with fail
    refine (CA.out wE.heap.size _ (new_c0 wE _ _ 2) (new_c1 wE _ _ 2)).mono ?_
    rintro e w6 ⟨rfl, rfl⟩
    have B7 := Lib.hid (HE.out.alloc HE.out.size (.cells #[.int .i64 now, .int .i64 term] 2))
    clear kt HE
    generalize wE.alloc (.cells #[.int .i64 now, .int .i64 term] 2) = w7 at *
    have hbe := build_ent su w7
    have hs7 := B7.out.size
    go_upto_region 7 with (first
      | ((with_reducible refine arm_build 31 199 _ #[(0, .int .i64 su)] (.agg #[.int .i64 su, .pointer none]) hbe ?_ ?_); simp [Act.eval])
      | ((with_reducible refine arm_alloc 9 199 EZ 2 ez_zero ?_); intro w8 HB8 HX8 HS8; have hst := box_store (t := 199) (x := #[.int .i64 su, .pointer none]) HX8.out ent_size (by kernel_rfl) rfl; have hbx := Lib.hid (box_whole (cs := #[.int .i64 su, .pointer none]) HX8.out rfl); have hf8 := Lib.hid (below_setCells (b := w7.heap.size) (Nat.le_refl _) (#[.int .i64 su, .pointer none] : Array Value).toList 0 HB8.out))
      | ((with_reducible refine arm_store 9 31 199 _ _ _ hst ?_ ?_ ?_); rfl; rfl))
    have B9 := Lib.hid (B7.out.trans (hf8.out.mono hs7))
    have E9 := Lib.hid hbx.out
    clear hst hbe hbx hf8 HX8 HB8 HS8
    generalize World.setCells w8 _ 0 (#[.int .i64 su, .pointer none] : Array Value).toList = w9 at *
    generalize w7.heap.size = eb at *
    have hlte := (Array.getElem?_eq_some_iff.1 E9.out).1
    have X9 := Lib.hid (HX2.out.below B9.out)
    have hxe := ne_ty X9.out.ptr E9.out (by decide)
    have HL3 : Hid (∀ w', Two eb eb w9 w' → w'.cell? ⟨xb, 2, none⟩ = some (.int .i64 rate) ∧ w'.cell? ⟨xb, 3, none⟩ = some (.int .i64 burst)) := Lib.hid fun w' q => by
      have a1 := (q.block xb (Array.getElem?_eq_some_iff.1 X9.out.ptr).1 hxe hxe).trans X9.out.ptr
      exact ⟨cells_of_row a1 2 _ rfl, cells_of_row a1 3 _ rfl⟩
    go_wp2_with fail
    refine wp_region_held_drew (S := Two eb eb w9) (by kernel_rfl) ((Two.refl eb eb w9).drewN 1) (fun hHeld => ?_)
    refine wpAnyH_take (i := 0) (oi := ⟨some 33, _, _, _, _, _⟩) (v := ?_) rfl (by kernel_rfl) (by kernel_rfl) (by kernel_rfl) (fun _ _ _ h => h) (Or.inl ⟨by rfl, ?_⟩) hHeld ?_
    rotate_left
    · intro w hSw
      go_simp
      try with_reducible rfl
    try simp only [Act.put, List.setIfInBounds_toArray, List.set_cons_zero, List.set_cons_succ]
    refine wpAnyH_take (i := 1) (oi := ⟨some 34, _, _, _, _, _⟩) (v := ?_) rfl (by kernel_rfl) (by kernel_rfl) (by kernel_rfl) (fun _ _ _ h => h) (Or.inl ⟨by rfl, ?_⟩) hHeld ?_
    rotate_left
    · intro w hSw
      go_simp
      try with_reducible rfl
    try simp only [Act.put, List.setIfInBounds_toArray, List.set_cons_zero, List.set_cons_succ]
    refine wpAnyH_take (i := 2) (oi := ⟨some 35, _, _, _, _, _⟩) (v := ?_) rfl (by kernel_rfl) (by kernel_rfl) (by kernel_rfl) (fun _ _ _ h => h) (Or.inl ⟨by rfl, ?_⟩) hHeld ?_
    rotate_left
    · intro w hSw
      go_simp
      try with_reducible rfl
    try simp only [Act.put, List.setIfInBounds_toArray, List.set_cons_zero, List.set_cons_succ]
    refine wpAnyH_take (i := 3) (oi := ⟨some 36, _, _, _, _, _⟩) (v := ?_) rfl (by kernel_rfl) (by kernel_rfl) (by kernel_rfl) (fun _ _ _ h => h) (Or.inl ⟨by rfl, ?_⟩) hHeld ?_
    rotate_left
    · intro w hSw
      obtain ⟨k2, k3⟩ := HL3.out w hSw
      go_simp
      try with_reducible rfl
    try simp only [Act.put, List.setIfInBounds_toArray, List.set_cons_zero, List.set_cons_succ]
    refine wpAnyH_take (i := 4) (oi := ⟨some 37, _, _, _, _, _⟩) (v := ?_) rfl (by kernel_rfl) (by kernel_rfl) (by kernel_rfl) (fun _ _ _ h => h) (Or.inl ⟨by rfl, ?_⟩) hHeld ?_
    rotate_left
    · intro w hSw
      go_simp
      try with_reducible rfl
    try simp only [Act.put, List.setIfInBounds_toArray, List.set_cons_zero, List.set_cons_succ]
    refine wpAnyH_take (i := 5) (oi := ⟨some 38, _, _, _, _, _⟩) (v := ?_) rfl (by kernel_rfl) (by kernel_rfl) (by kernel_rfl) (fun _ _ _ h => h) (Or.inl ⟨by rfl, ?_⟩) hHeld ?_
    rotate_left
    · intro w hSw
      go_simp
      try with_reducible rfl
    try simp only [Act.put, List.setIfInBounds_toArray, List.set_cons_zero, List.set_cons_succ]
    refine wpAnyH_take (i := 6) (oi := ⟨some 39, _, _, _, _, _⟩) (v := ?_) rfl (by kernel_rfl) (by kernel_rfl) (by kernel_rfl) (fun _ _ _ h => h) (Or.inl ⟨by rfl, ?_⟩) hHeld ?_
    rotate_left
    · intro w hSw
      go_simp
      try with_reducible rfl
    try simp only [Act.put, List.setIfInBounds_toArray, List.set_cons_zero, List.set_cons_succ]
    refine wpAnyH_take (i := 7) (oi := ⟨some 40, _, _, _, _, _⟩) (v := ?_) rfl (by kernel_rfl) (by kernel_rfl) (by kernel_rfl) (fun _ _ _ h => h) (Or.inl ⟨by rfl, ?_⟩) hHeld ?_
    rotate_left
    · intro w hSw
      obtain ⟨k2, k3⟩ := HL3.out w hSw
      go_simp
      try with_reducible rfl
    try simp only [Act.put, List.setIfInBounds_toArray, List.set_cons_zero, List.set_cons_succ]
    refine wpAnyH_ready (rs := [8]) (by kernel_rfl) (by simp) ?_
    refine AllReadyH.cons rfl (fun K hK => ?_) AllReadyH.nil
    go_simp
    go_wp2_with (go_at_call 70; go_must (refine (CN.out _).mono ?_; rintro e w8 ⟨rfl, hTk, hB, _⟩))
    refine hK.out _ _ (two_next hHeld hB) (fun hHeld => ?_)
    clear hK K
    have E10 : _ = some (Obj.cells #[.int .i64 su, .pointer none] 199 (0, 0)) := keep_block hB (show w9.drew.heap[eb]? = _ from E9.out)
    have e1 : w8.cell? ⟨eb, 1, none⟩ = some (.pointer none) := cells_of_row E10 1 _ rfl
    have g1 := frozen_of_row _ _ 1 _ _ E10
    refine wpAnyH_take (i := 9) (oi := ⟨some 32, _, _, _, _, _⟩) (v := ?_) rfl (by kernel_rfl) (by kernel_rfl) (by kernel_rfl) (fun _ _ _ h => h) (Or.inl ⟨by rfl, ?_⟩) hHeld ?_
    rotate_left
    · intro w hSw
      go_simp
      try with_reducible rfl
    try simp only [Act.put, List.setIfInBounds_toArray, List.set_cons_zero, List.set_cons_succ]
    refine wpAnyH_take (i := 10) (oi := ⟨some 42, _, _, _, _, _⟩) (v := ?_) rfl (by kernel_rfl) (by kernel_rfl) (by kernel_rfl) (fun _ _ _ h => h) (Or.inl ⟨by rfl, ?_⟩) hHeld ?_
    rotate_left
    · intro w hSw
      go_simp
      try with_reducible rfl
    try simp only [Act.put, List.setIfInBounds_toArray, List.set_cons_zero, List.set_cons_succ]
    refine wpAnyH_take (i := 11) (oi := ⟨some 43, _, _, _, _, _⟩) (v := ?_) rfl (by kernel_rfl) (by kernel_rfl) (by kernel_rfl) (fun _ _ _ h => h) (Or.inl ⟨by rfl, ?_⟩) hHeld ?_
    rotate_left
    · intro w hSw
      go_simp
      try with_reducible rfl
    try simp only [Act.put, List.setIfInBounds_toArray, List.set_cons_zero, List.set_cons_succ]
    refine wpAnyH_take (i := 12) (oi := ⟨some 44, _, _, _, _, _⟩) (v := ?_) rfl (by kernel_rfl) (by kernel_rfl) (by kernel_rfl) (fun _ _ _ h => h) (Or.inl ⟨by rfl, ?_⟩) hHeld ?_
    rotate_left
    · intro w hSw
      go_simp
      try with_reducible rfl
    try simp only [Act.put, List.setIfInBounds_toArray, List.set_cons_zero, List.set_cons_succ]
    refine wpAnyH_ready (rs := [13]) (by kernel_rfl) (by simp) ?_
    refine AllReadyH.cons rfl (fun K hK => ?_) AllReadyH.nil
    go_simp
    refine hK.out _ _ (hHeld.setCell (x := ⟨eb, 1, none⟩) (.inl rfl) _) (fun hHeld => ?_)
    clear hK K
    refine wpAnyH_done (by kernel_rfl) ?_ _
    obtain ⟨tb, htb⟩ : ∃ tb, tb = w9.heap.size := ⟨_, rfl⟩
    have hTk' : TkAt w8 w9.heap.size rate (burst * 1048576) (burst * 1048576) 0 := hTk
    have hB' : Below w9.heap.size w9 w8 := ((Below.refl w9.heap.size w9).drew).trans (show Below w9.heap.size w9.drew w8 from hB)
    rw [← htb] at hTk' ⊢
    have E11 : (w8.setCell ⟨eb, 1, none⟩ (.pointer (some ⟨tb, 0, none⟩))).heap[eb]? = some (.cells #[.int .i64 su, .pointer (some ⟨tb, 0, none⟩)] 199 (0, 0)) := heap_setCell_same _ _ 1 _ _ _ E10
    have B11 : Below w2.heap.size w2 (w8.setCell ⟨eb, 1, none⟩ (.pointer (some ⟨tb, 0, none⟩))) := (B9.out.trans (hB'.mono B9.out.size)).setCell (p := ⟨eb, 1, none⟩) hs7 _
    have TK11 : TkAt (w8.setCell ⟨eb, 1, none⟩ (.pointer (some ⟨tb, 0, none⟩))) tb rate (burst * 1048576) (burst * 1048576) 0 := by
      unfold TkAt
      rw [heap_setCell_other _ _ _ _ (show tb ≠ eb by omega)]
      exact hTk'
    have hnt : eb ≠ tb := by omega
    have htle : w2.heap.size ≤ tb := by omega
    clear hTk hTk' hB hB' hHeld e1 g1 E10 htb
    generalize w8.setCell ⟨eb, 1, none⟩ (.pointer (some ⟨tb, 0, none⟩)) = w11 at *
    have CT := Lib.hid (token_take tb rate (burst * 1048576) (burst * 1048576) 0 now 0 w11 TK11 (by omega) hnow.1 hnow.2 (by omega) (by omega))
    rw [levelT_full (by omega)] at CT
    have htt : takesT (burst * 1048576) 0 = true := by
      unfold takesT
      exact decide_eq_true (by omega)
    rw [htt] at CT
    have e1 : w11.cell? ⟨eb, 1, none⟩ = some (.pointer (some ⟨tb, 0, none⟩)) := cells_of_row E11 1 _ rfl
    have HE11 := Lib.hid E11
    have HB11 := Lib.hid B11
    clear E11 B11 TK11 htt
    go_wp2_with fail
    refine CT.out.mono ?_
    rintro e w12 ⟨rfl, hTk, hT12⟩
    have hnow2 : (if (0 : Int) < now then now else 0) = now := by split <;> omega
    rw [hnow2] at hTk
    have hTk' : TkAt w12 tb rate (burst * 1048576) (burst * 1048576) now := by
      simpa using hTk
    have B12 := Lib.hid (two_below HB11.out hT12 htle HB11.out.size)
    have E12 := Lib.hid ((hT12.block eb (Array.getElem?_eq_some_iff.1 HE11.out).1 hnt hnt).trans HE11.out)
    have TK12 := Lib.hid hTk'
    clear hTk hTk' hT12 CT e1 hnow2
    have X12 := Lib.hid (HX2.out.below B12.out)
    have P12 := Lib.hid (keep_block B12.out P2.out)
    have n1 := ne_ty P12.out X12.out.tb.ptr (by decide)
    have n2 := ne_ty P12.out X12.out.tb.row (by decide)
    have n3 := ne_ty E12.out X12.out.tb.ptr (by decide)
    have n4 := ne_ty E12.out X12.out.tb.row (by decide)
    have n5 := ne_ty TK12.out X12.out.tb.ptr (by decide)
    have n6 := ne_ty TK12.out X12.out.tb.row (by decide)
    have HL4 : Hid (∀ w', Two pb b w12 w' → w'.cell? ⟨xb, 0, none⟩ = some (.pointer (some ⟨pb, 0, none⟩)) ∧ (Instr.loadAt 65 (.pointer (some ⟨w.heap.size, 0, none⟩))).run Tryz.prog w' = .ok (.agg p) w' ∧ (Instr.loadAt 199 (.pointer (some ⟨eb, 0, none⟩))).run Tryz.prog w' = .ok (.agg #[.int .i64 su, .pointer (some ⟨tb, 0, none⟩)]) w') := Lib.hid fun w' q => by
      obtain ⟨m1, m2⟩ := X12.out.ne
      have a1 := (q.block xb (Array.getElem?_eq_some_iff.1 X12.out.ptr).1 m1 m2).trans X12.out.ptr
      have a2 := (q.block _ (Array.getElem?_eq_some_iff.1 P12.out).1 n1 n2).trans P12.out
      have a3 := (q.block _ (Array.getElem?_eq_some_iff.1 E12.out).1 n3 n4).trans E12.out
      exact ⟨cells_of_row a1 0 _ rfl, box_load (t := 65) a2 _ Tryz.underlying65 rfl HPS.out, box_load (t := 199) a3 _ Tryz.underlying199 rfl ent_size⟩
    have CPT : Hid (Calls Tryz.prog 72 #[.pointer (some ⟨pb, 0, none⟩), .agg p, .agg #[.int .i64 su, .pointer (some ⟨tb, 0, none⟩)]] w12.drew fun e w' => e = .returned (.bool true) ∧ TbAt w' pb b (l'.set s ⟨1, p, su, some tb⟩) room (nn' + 1) ∧ Two pb b w12.drew w') := Lib.hid (HCP.out su (some tb) w12.drew X12.out.tb.drew)
    go_wp2_with fail
    refine wp_region_held_drew (S := Two pb b w12) (by kernel_rfl) ((Two.refl pb b w12).drewN 1) (fun hHeld => ?_)
    refine wpAnyH_take (i := 0) (oi := ⟨some 49, _, _, _, _, _⟩) (v := ?_) rfl (by kernel_rfl) (by kernel_rfl) (by kernel_rfl) (fun _ _ _ h => h) (Or.inl ⟨by rfl, ?_⟩) hHeld ?_
    rotate_left
    · intro w hSw
      go_simp
      try with_reducible rfl
    try simp only [Act.put, List.setIfInBounds_toArray, List.set_cons_zero, List.set_cons_succ]
    refine wpAnyH_take (i := 1) (oi := ⟨some 50, _, _, _, _, _⟩) (v := ?_) rfl (by kernel_rfl) (by kernel_rfl) (by kernel_rfl) (fun _ _ _ h => h) (Or.inl ⟨by rfl, ?_⟩) hHeld ?_
    rotate_left
    · intro w hSw
      go_simp
      try with_reducible rfl
    try simp only [Act.put, List.setIfInBounds_toArray, List.set_cons_zero, List.set_cons_succ]
    refine wpAnyH_take (i := 2) (oi := ⟨some 51, _, _, _, _, _⟩) (v := ?_) rfl (by kernel_rfl) (by kernel_rfl) (by kernel_rfl) (fun _ _ _ h => h) (Or.inl ⟨by rfl, ?_⟩) hHeld ?_
    rotate_left
    · intro w hSw
      go_simp
      try with_reducible rfl
    try simp only [Act.put, List.setIfInBounds_toArray, List.set_cons_zero, List.set_cons_succ]
    refine wpAnyH_take (i := 3) (oi := ⟨some 52, _, _, _, _, _⟩) (v := ?_) rfl (by kernel_rfl) (by kernel_rfl) (by kernel_rfl) (fun _ _ _ h => h) (Or.inl ⟨by rfl, ?_⟩) hHeld ?_
    rotate_left
    · intro w hSw
      obtain ⟨k0, _, _⟩ := HL4.out w hSw
      go_simp
      try with_reducible rfl
    try simp only [Act.put, List.setIfInBounds_toArray, List.set_cons_zero, List.set_cons_succ]
    refine wpAnyH_take (i := 4) (oi := ⟨some 53, _, _, _, _, _⟩) (v := .agg p) rfl (by kernel_rfl) (by kernel_rfl) (by kernel_rfl) (fun _ _ _ h => h) (Or.inl ⟨by rfl, fun w hSw => exec_load rfl (HL4.out w hSw).2.1⟩) hHeld ?_
    try simp only [Act.put, List.setIfInBounds_toArray, List.set_cons_zero, List.set_cons_succ]
    refine wpAnyH_take (i := 5) (oi := ⟨some 54, _, _, _, _, _⟩) (v := .agg #[.int .i64 su, .pointer (some ⟨tb, 0, none⟩)]) rfl (by kernel_rfl) (by kernel_rfl) (by kernel_rfl) (fun _ _ _ h => h) (Or.inl ⟨by rfl, fun w hSw => exec_load rfl (HL4.out w hSw).2.2⟩) hHeld ?_
    try simp only [Act.put, List.setIfInBounds_toArray, List.set_cons_zero, List.set_cons_succ]
    refine wpAnyH_ready (rs := [6]) (by kernel_rfl) (by simp) ?_
    refine AllReadyH.cons rfl (fun K hK => ?_) AllReadyH.nil
    go_simp
    go_wp2_with (go_at_call 72; go_must (refine (CPT.out).mono ?_; rintro e w6 ⟨rfl, hT, h2⟩))
    refine hK.out _ _ (hHeld.trans h2) (fun hHeld => ?_)
    clear hK K
    refine wpAnyH_take (i := 7) (oi := ⟨some 56, _, _, _, _, _⟩) (v := ?_) rfl (by kernel_rfl) (by kernel_rfl) (by kernel_rfl) (fun _ _ _ h => h) (Or.inl ⟨by rfl, ?_⟩) hHeld ?_
    rotate_left
    · intro w hSw
      go_simp
      try with_reducible rfl
    try simp only [Act.put, List.setIfInBounds_toArray, List.set_cons_zero, List.set_cons_succ]
    refine wpAnyH_done (by kernel_rfl) ?_ _
    have HT := Lib.hid hT
    have H2 := Lib.hid hHeld
    clear hT h2 hHeld
    obtain ⟨m1, m2⟩ := X12.out.ne
    go_wp2
    go_ret
    exact ⟨tb, rfl, Nat.le_trans T2.out.size htle, ⟨(H2.out.block xb (Array.getElem?_eq_some_iff.1 X12.out.ptr).1 m1 m2).trans X12.out.ptr, HT.out⟩, (H2.out.block tb (Array.getElem?_eq_some_iff.1 TK12.out).1 n5 n6).trans TK12.out, (T2.out.trans (two_ofB B12.out)).trans H2.out⟩
  · skip
    have hS9 := hHeld.size; refine step_alloc 7 199 EZ 2 ez_zero ?_; intro W9 HB9 HX9 HS9
    refine hK.out _ _ (hHeld.trans (HB9.out.mono hHeld.size)) (fun hHeld => ?_)
    clear hK K
    refine wpAnyH_ready (rs := [5]) (by kernel_rfl) (by simp) ?_
    refine AllReadyH.cons rfl (fun K hK => ?_) AllReadyH.nil
    go_simp
    go_wp2_with (go_at_call 69; go_must (refine (CG.out _ hHeld).mono ?_; rintro e w5 ⟨rfl, hB⟩))
    refine hK.out _ _ (hHeld.trans (hB.mono hHeld.size)) (fun hHeld => ?_)
    clear hK K
    have HX10 := Lib.hid (keep_block hB HX9.out)
    refine wpAnyH_take (i := 6) (oi := ⟨some 14, _, _, _, _, _⟩) (v := ?_) rfl (by kernel_rfl) (by kernel_rfl) (by kernel_rfl) (fun _ _ _ h => h) (Or.inl ⟨by rfl, ?_⟩) hHeld ?_
    rotate_left
    · intro w hSw
      go_simp
      try with_reducible rfl
    try simp only [Act.put, List.setIfInBounds_toArray, List.set_cons_zero, List.set_cons_succ]
    refine wpAnyH_take (i := 7) (oi := ⟨some 21, _, _, _, _, _⟩) (v := ?_) rfl (by kernel_rfl) (by kernel_rfl) (by kernel_rfl) (fun _ _ _ h => h) (Or.inl ⟨by rfl, ?_⟩) hHeld ?_
    rotate_left
    · intro w hSw
      go_simp
      try with_reducible rfl
    try simp only [Act.put, List.setIfInBounds_toArray, List.set_cons_zero, List.set_cons_succ]
    refine wpAnyH_take (i := 8) (oi := ⟨some 22, _, _, _, _, _⟩) (v := ?_) rfl (by kernel_rfl) (by kernel_rfl) (by kernel_rfl) (fun _ _ _ h => h) (Or.inl ⟨by rfl, ?_⟩) hHeld ?_
    rotate_left
    · intro w hSw
      go_simp
      try with_reducible rfl
    try simp only [Act.put, List.setIfInBounds_toArray, List.set_cons_zero, List.set_cons_succ]
    refine wpAnyH_ready (rs := [10]) (by kernel_rfl) (by simp) ?_
    refine AllReadyH.cons rfl (fun K hK => ?_) AllReadyH.nil
    have HBX := Lib.hid (box_whole (cs := #[.int .i64 til, .pointer tk]) HX10.out rfl); refine step_store 7 21 199 _ _ _ (box_store (x := #[.int .i64 til, .pointer tk]) HX10.out ent_size (by kernel_rfl) rfl) rfl rfl ?_
    refine hK.out _ _ (below_setCells hS9 _ _ hHeld) (fun hHeld => ?_)
    clear hK K
    refine wpAnyH_take (i := 11) (oi := ⟨some 8, _, _, _, _, _⟩) (v := ?_) rfl (by kernel_rfl) (by kernel_rfl) (by kernel_rfl) (fun _ _ _ h => h) (Or.inl ⟨by rfl, ?_⟩) hHeld ?_
    rotate_left
    · intro w hSw
      go_simp
      try with_reducible rfl
    try simp only [Act.put, List.setIfInBounds_toArray, List.set_cons_zero, List.set_cons_succ]
    refine wpAnyH_done (by kernel_rfl) ?_ _
    have HE := Lib.hid hHeld
    clear hHeld
    try simp only [Act.put, List.setIfInBounds_toArray, List.set_cons_zero, List.set_cons_succ]
    generalize World.setCells _ _ 0 (#[.int .i64 til, .pointer tk] : Array Value).toList = wE at *
    have kt := (HX2.out.below HE.out).cells.2.1
    clear HBX
    go_wp2_with fail
    refine (CA.out wE.heap.size _ (new_c0 wE _ _ 2) (new_c1 wE _ _ 2)).mono ?_
    rintro e w6 ⟨rfl, rfl⟩
    have B7 := Lib.hid (HE.out.alloc HE.out.size (.cells #[.int .i64 now, .int .i64 term] 2))
    clear kt HE
    generalize wE.alloc (.cells #[.int .i64 now, .int .i64 term] 2) = w7 at *
    have hbe := build_ent su w7
    have hs7 := B7.out.size
    go_upto_region 7 with (first
      | ((with_reducible refine arm_build 31 199 _ #[(0, .int .i64 su)] (.agg #[.int .i64 su, .pointer none]) hbe ?_ ?_); simp [Act.eval])
      | ((with_reducible refine arm_alloc 9 199 EZ 2 ez_zero ?_); intro w8 HB8 HX8 HS8; have hst := box_store (t := 199) (x := #[.int .i64 su, .pointer none]) HX8.out ent_size (by kernel_rfl) rfl; have hbx := Lib.hid (box_whole (cs := #[.int .i64 su, .pointer none]) HX8.out rfl); have hf8 := Lib.hid (below_setCells (b := w7.heap.size) (Nat.le_refl _) (#[.int .i64 su, .pointer none] : Array Value).toList 0 HB8.out))
      | ((with_reducible refine arm_store 9 31 199 _ _ _ hst ?_ ?_ ?_); rfl; rfl))
    have B9 := Lib.hid (B7.out.trans (hf8.out.mono hs7))
    have E9 := Lib.hid hbx.out
    clear hst hbe hbx hf8 HX8 HB8 HS8
    generalize World.setCells w8 _ 0 (#[.int .i64 su, .pointer none] : Array Value).toList = w9 at *
    generalize w7.heap.size = eb at *
    have hlte := (Array.getElem?_eq_some_iff.1 E9.out).1
    have X9 := Lib.hid (HX2.out.below B9.out)
    have hxe := ne_ty X9.out.ptr E9.out (by decide)
    have HL3 : Hid (∀ w', Two eb eb w9 w' → w'.cell? ⟨xb, 2, none⟩ = some (.int .i64 rate) ∧ w'.cell? ⟨xb, 3, none⟩ = some (.int .i64 burst)) := Lib.hid fun w' q => by
      have a1 := (q.block xb (Array.getElem?_eq_some_iff.1 X9.out.ptr).1 hxe hxe).trans X9.out.ptr
      exact ⟨cells_of_row a1 2 _ rfl, cells_of_row a1 3 _ rfl⟩
    go_wp2_with fail
    refine wp_region_held_drew (S := Two eb eb w9) (by kernel_rfl) ((Two.refl eb eb w9).drewN 1) (fun hHeld => ?_)
    refine wpAnyH_take (i := 0) (oi := ⟨some 33, _, _, _, _, _⟩) (v := ?_) rfl (by kernel_rfl) (by kernel_rfl) (by kernel_rfl) (fun _ _ _ h => h) (Or.inl ⟨by rfl, ?_⟩) hHeld ?_
    rotate_left
    · intro w hSw
      go_simp
      try with_reducible rfl
    try simp only [Act.put, List.setIfInBounds_toArray, List.set_cons_zero, List.set_cons_succ]
    refine wpAnyH_take (i := 1) (oi := ⟨some 34, _, _, _, _, _⟩) (v := ?_) rfl (by kernel_rfl) (by kernel_rfl) (by kernel_rfl) (fun _ _ _ h => h) (Or.inl ⟨by rfl, ?_⟩) hHeld ?_
    rotate_left
    · intro w hSw
      go_simp
      try with_reducible rfl
    try simp only [Act.put, List.setIfInBounds_toArray, List.set_cons_zero, List.set_cons_succ]
    refine wpAnyH_take (i := 2) (oi := ⟨some 35, _, _, _, _, _⟩) (v := ?_) rfl (by kernel_rfl) (by kernel_rfl) (by kernel_rfl) (fun _ _ _ h => h) (Or.inl ⟨by rfl, ?_⟩) hHeld ?_
    rotate_left
    · intro w hSw
      go_simp
      try with_reducible rfl
    try simp only [Act.put, List.setIfInBounds_toArray, List.set_cons_zero, List.set_cons_succ]
    refine wpAnyH_take (i := 3) (oi := ⟨some 36, _, _, _, _, _⟩) (v := ?_) rfl (by kernel_rfl) (by kernel_rfl) (by kernel_rfl) (fun _ _ _ h => h) (Or.inl ⟨by rfl, ?_⟩) hHeld ?_
    rotate_left
    · intro w hSw
      obtain ⟨k2, k3⟩ := HL3.out w hSw
      go_simp
      try with_reducible rfl
    try simp only [Act.put, List.setIfInBounds_toArray, List.set_cons_zero, List.set_cons_succ]
    refine wpAnyH_take (i := 4) (oi := ⟨some 37, _, _, _, _, _⟩) (v := ?_) rfl (by kernel_rfl) (by kernel_rfl) (by kernel_rfl) (fun _ _ _ h => h) (Or.inl ⟨by rfl, ?_⟩) hHeld ?_
    rotate_left
    · intro w hSw
      go_simp
      try with_reducible rfl
    try simp only [Act.put, List.setIfInBounds_toArray, List.set_cons_zero, List.set_cons_succ]
    refine wpAnyH_take (i := 5) (oi := ⟨some 38, _, _, _, _, _⟩) (v := ?_) rfl (by kernel_rfl) (by kernel_rfl) (by kernel_rfl) (fun _ _ _ h => h) (Or.inl ⟨by rfl, ?_⟩) hHeld ?_
    rotate_left
    · intro w hSw
      go_simp
      try with_reducible rfl
    try simp only [Act.put, List.setIfInBounds_toArray, List.set_cons_zero, List.set_cons_succ]
    refine wpAnyH_take (i := 6) (oi := ⟨some 39, _, _, _, _, _⟩) (v := ?_) rfl (by kernel_rfl) (by kernel_rfl) (by kernel_rfl) (fun _ _ _ h => h) (Or.inl ⟨by rfl, ?_⟩) hHeld ?_
    rotate_left
    · intro w hSw
      go_simp
      try with_reducible rfl
    try simp only [Act.put, List.setIfInBounds_toArray, List.set_cons_zero, List.set_cons_succ]
    refine wpAnyH_take (i := 7) (oi := ⟨some 40, _, _, _, _, _⟩) (v := ?_) rfl (by kernel_rfl) (by kernel_rfl) (by kernel_rfl) (fun _ _ _ h => h) (Or.inl ⟨by rfl, ?_⟩) hHeld ?_
    rotate_left
    · intro w hSw
      obtain ⟨k2, k3⟩ := HL3.out w hSw
      go_simp
      try with_reducible rfl
    try simp only [Act.put, List.setIfInBounds_toArray, List.set_cons_zero, List.set_cons_succ]
    refine wpAnyH_ready (rs := [8]) (by kernel_rfl) (by simp) ?_
    refine AllReadyH.cons rfl (fun K hK => ?_) AllReadyH.nil
    go_simp
    go_wp2_with (go_at_call 70; go_must (refine (CN.out _).mono ?_; rintro e w8 ⟨rfl, hTk, hB, _⟩))
    refine hK.out _ _ (two_next hHeld hB) (fun hHeld => ?_)
    clear hK K
    have E10 : _ = some (Obj.cells #[.int .i64 su, .pointer none] 199 (0, 0)) := keep_block hB (show w9.drew.heap[eb]? = _ from E9.out)
    have e1 : w8.cell? ⟨eb, 1, none⟩ = some (.pointer none) := cells_of_row E10 1 _ rfl
    have g1 := frozen_of_row _ _ 1 _ _ E10
    refine wpAnyH_take (i := 9) (oi := ⟨some 32, _, _, _, _, _⟩) (v := ?_) rfl (by kernel_rfl) (by kernel_rfl) (by kernel_rfl) (fun _ _ _ h => h) (Or.inl ⟨by rfl, ?_⟩) hHeld ?_
    rotate_left
    · intro w hSw
      go_simp
      try with_reducible rfl
    try simp only [Act.put, List.setIfInBounds_toArray, List.set_cons_zero, List.set_cons_succ]
    refine wpAnyH_take (i := 10) (oi := ⟨some 42, _, _, _, _, _⟩) (v := ?_) rfl (by kernel_rfl) (by kernel_rfl) (by kernel_rfl) (fun _ _ _ h => h) (Or.inl ⟨by rfl, ?_⟩) hHeld ?_
    rotate_left
    · intro w hSw
      go_simp
      try with_reducible rfl
    try simp only [Act.put, List.setIfInBounds_toArray, List.set_cons_zero, List.set_cons_succ]
    refine wpAnyH_take (i := 11) (oi := ⟨some 43, _, _, _, _, _⟩) (v := ?_) rfl (by kernel_rfl) (by kernel_rfl) (by kernel_rfl) (fun _ _ _ h => h) (Or.inl ⟨by rfl, ?_⟩) hHeld ?_
    rotate_left
    · intro w hSw
      go_simp
      try with_reducible rfl
    try simp only [Act.put, List.setIfInBounds_toArray, List.set_cons_zero, List.set_cons_succ]
    refine wpAnyH_take (i := 12) (oi := ⟨some 44, _, _, _, _, _⟩) (v := ?_) rfl (by kernel_rfl) (by kernel_rfl) (by kernel_rfl) (fun _ _ _ h => h) (Or.inl ⟨by rfl, ?_⟩) hHeld ?_
    rotate_left
    · intro w hSw
      go_simp
      try with_reducible rfl
    try simp only [Act.put, List.setIfInBounds_toArray, List.set_cons_zero, List.set_cons_succ]
    refine wpAnyH_ready (rs := [13]) (by kernel_rfl) (by simp) ?_
    refine AllReadyH.cons rfl (fun K hK => ?_) AllReadyH.nil
    go_simp
    refine hK.out _ _ (hHeld.setCell (x := ⟨eb, 1, none⟩) (.inl rfl) _) (fun hHeld => ?_)
    clear hK K
    refine wpAnyH_done (by kernel_rfl) ?_ _
    obtain ⟨tb, htb⟩ : ∃ tb, tb = w9.heap.size := ⟨_, rfl⟩
    have hTk' : TkAt w8 w9.heap.size rate (burst * 1048576) (burst * 1048576) 0 := hTk
    have hB' : Below w9.heap.size w9 w8 := ((Below.refl w9.heap.size w9).drew).trans (show Below w9.heap.size w9.drew w8 from hB)
    rw [← htb] at hTk' ⊢
    have E11 : (w8.setCell ⟨eb, 1, none⟩ (.pointer (some ⟨tb, 0, none⟩))).heap[eb]? = some (.cells #[.int .i64 su, .pointer (some ⟨tb, 0, none⟩)] 199 (0, 0)) := heap_setCell_same _ _ 1 _ _ _ E10
    have B11 : Below w2.heap.size w2 (w8.setCell ⟨eb, 1, none⟩ (.pointer (some ⟨tb, 0, none⟩))) := (B9.out.trans (hB'.mono B9.out.size)).setCell (p := ⟨eb, 1, none⟩) hs7 _
    have TK11 : TkAt (w8.setCell ⟨eb, 1, none⟩ (.pointer (some ⟨tb, 0, none⟩))) tb rate (burst * 1048576) (burst * 1048576) 0 := by
      unfold TkAt
      rw [heap_setCell_other _ _ _ _ (show tb ≠ eb by omega)]
      exact hTk'
    have hnt : eb ≠ tb := by omega
    have htle : w2.heap.size ≤ tb := by omega
    clear hTk hTk' hB hB' hHeld e1 g1 E10 htb
    generalize w8.setCell ⟨eb, 1, none⟩ (.pointer (some ⟨tb, 0, none⟩)) = w11 at *
    have CT := Lib.hid (token_take tb rate (burst * 1048576) (burst * 1048576) 0 now 0 w11 TK11 (by omega) hnow.1 hnow.2 (by omega) (by omega))
    rw [levelT_full (by omega)] at CT
    have htt : takesT (burst * 1048576) 0 = true := by
      unfold takesT
      exact decide_eq_true (by omega)
    rw [htt] at CT
    have e1 : w11.cell? ⟨eb, 1, none⟩ = some (.pointer (some ⟨tb, 0, none⟩)) := cells_of_row E11 1 _ rfl
    have HE11 := Lib.hid E11
    have HB11 := Lib.hid B11
    clear E11 B11 TK11 htt
    go_wp2_with fail
    refine CT.out.mono ?_
    rintro e w12 ⟨rfl, hTk, hT12⟩
    have hnow2 : (if (0 : Int) < now then now else 0) = now := by split <;> omega
    rw [hnow2] at hTk
    have hTk' : TkAt w12 tb rate (burst * 1048576) (burst * 1048576) now := by
      simpa using hTk
    have B12 := Lib.hid (two_below HB11.out hT12 htle HB11.out.size)
    have E12 := Lib.hid ((hT12.block eb (Array.getElem?_eq_some_iff.1 HE11.out).1 hnt hnt).trans HE11.out)
    have TK12 := Lib.hid hTk'
    clear hTk hTk' hT12 CT e1 hnow2
    have X12 := Lib.hid (HX2.out.below B12.out)
    have P12 := Lib.hid (keep_block B12.out P2.out)
    have n1 := ne_ty P12.out X12.out.tb.ptr (by decide)
    have n2 := ne_ty P12.out X12.out.tb.row (by decide)
    have n3 := ne_ty E12.out X12.out.tb.ptr (by decide)
    have n4 := ne_ty E12.out X12.out.tb.row (by decide)
    have n5 := ne_ty TK12.out X12.out.tb.ptr (by decide)
    have n6 := ne_ty TK12.out X12.out.tb.row (by decide)
    have HL4 : Hid (∀ w', Two pb b w12 w' → w'.cell? ⟨xb, 0, none⟩ = some (.pointer (some ⟨pb, 0, none⟩)) ∧ (Instr.loadAt 65 (.pointer (some ⟨w.heap.size, 0, none⟩))).run Tryz.prog w' = .ok (.agg p) w' ∧ (Instr.loadAt 199 (.pointer (some ⟨eb, 0, none⟩))).run Tryz.prog w' = .ok (.agg #[.int .i64 su, .pointer (some ⟨tb, 0, none⟩)]) w') := Lib.hid fun w' q => by
      obtain ⟨m1, m2⟩ := X12.out.ne
      have a1 := (q.block xb (Array.getElem?_eq_some_iff.1 X12.out.ptr).1 m1 m2).trans X12.out.ptr
      have a2 := (q.block _ (Array.getElem?_eq_some_iff.1 P12.out).1 n1 n2).trans P12.out
      have a3 := (q.block _ (Array.getElem?_eq_some_iff.1 E12.out).1 n3 n4).trans E12.out
      exact ⟨cells_of_row a1 0 _ rfl, box_load (t := 65) a2 _ Tryz.underlying65 rfl HPS.out, box_load (t := 199) a3 _ Tryz.underlying199 rfl ent_size⟩
    have CPT : Hid (Calls Tryz.prog 72 #[.pointer (some ⟨pb, 0, none⟩), .agg p, .agg #[.int .i64 su, .pointer (some ⟨tb, 0, none⟩)]] w12.drew fun e w' => e = .returned (.bool true) ∧ TbAt w' pb b (l'.set s ⟨1, p, su, some tb⟩) room (nn' + 1) ∧ Two pb b w12.drew w') := Lib.hid (HCP.out su (some tb) w12.drew X12.out.tb.drew)
    go_wp2_with fail
    refine wp_region_held_drew (S := Two pb b w12) (by kernel_rfl) ((Two.refl pb b w12).drewN 1) (fun hHeld => ?_)
    refine wpAnyH_take (i := 0) (oi := ⟨some 49, _, _, _, _, _⟩) (v := ?_) rfl (by kernel_rfl) (by kernel_rfl) (by kernel_rfl) (fun _ _ _ h => h) (Or.inl ⟨by rfl, ?_⟩) hHeld ?_
    rotate_left
    · intro w hSw
      go_simp
      try with_reducible rfl
    try simp only [Act.put, List.setIfInBounds_toArray, List.set_cons_zero, List.set_cons_succ]
    refine wpAnyH_take (i := 1) (oi := ⟨some 50, _, _, _, _, _⟩) (v := ?_) rfl (by kernel_rfl) (by kernel_rfl) (by kernel_rfl) (fun _ _ _ h => h) (Or.inl ⟨by rfl, ?_⟩) hHeld ?_
    rotate_left
    · intro w hSw
      go_simp
      try with_reducible rfl
    try simp only [Act.put, List.setIfInBounds_toArray, List.set_cons_zero, List.set_cons_succ]
    refine wpAnyH_take (i := 2) (oi := ⟨some 51, _, _, _, _, _⟩) (v := ?_) rfl (by kernel_rfl) (by kernel_rfl) (by kernel_rfl) (fun _ _ _ h => h) (Or.inl ⟨by rfl, ?_⟩) hHeld ?_
    rotate_left
    · intro w hSw
      go_simp
      try with_reducible rfl
    try simp only [Act.put, List.setIfInBounds_toArray, List.set_cons_zero, List.set_cons_succ]
    refine wpAnyH_take (i := 3) (oi := ⟨some 52, _, _, _, _, _⟩) (v := ?_) rfl (by kernel_rfl) (by kernel_rfl) (by kernel_rfl) (fun _ _ _ h => h) (Or.inl ⟨by rfl, ?_⟩) hHeld ?_
    rotate_left
    · intro w hSw
      obtain ⟨k0, _, _⟩ := HL4.out w hSw
      go_simp
      try with_reducible rfl
    try simp only [Act.put, List.setIfInBounds_toArray, List.set_cons_zero, List.set_cons_succ]
    refine wpAnyH_take (i := 4) (oi := ⟨some 53, _, _, _, _, _⟩) (v := .agg p) rfl (by kernel_rfl) (by kernel_rfl) (by kernel_rfl) (fun _ _ _ h => h) (Or.inl ⟨by rfl, fun w hSw => exec_load rfl (HL4.out w hSw).2.1⟩) hHeld ?_
    try simp only [Act.put, List.setIfInBounds_toArray, List.set_cons_zero, List.set_cons_succ]
    refine wpAnyH_take (i := 5) (oi := ⟨some 54, _, _, _, _, _⟩) (v := .agg #[.int .i64 su, .pointer (some ⟨tb, 0, none⟩)]) rfl (by kernel_rfl) (by kernel_rfl) (by kernel_rfl) (fun _ _ _ h => h) (Or.inl ⟨by rfl, fun w hSw => exec_load rfl (HL4.out w hSw).2.2⟩) hHeld ?_
    try simp only [Act.put, List.setIfInBounds_toArray, List.set_cons_zero, List.set_cons_succ]
    refine wpAnyH_ready (rs := [6]) (by kernel_rfl) (by simp) ?_
    refine AllReadyH.cons rfl (fun K hK => ?_) AllReadyH.nil
    go_simp
    go_wp2_with (go_at_call 72; go_must (refine (CPT.out).mono ?_; rintro e w6 ⟨rfl, hT, h2⟩))
    refine hK.out _ _ (hHeld.trans h2) (fun hHeld => ?_)
    clear hK K
    refine wpAnyH_take (i := 7) (oi := ⟨some 56, _, _, _, _, _⟩) (v := ?_) rfl (by kernel_rfl) (by kernel_rfl) (by kernel_rfl) (fun _ _ _ h => h) (Or.inl ⟨by rfl, ?_⟩) hHeld ?_
    rotate_left
    · intro w hSw
      go_simp
      try with_reducible rfl
    try simp only [Act.put, List.setIfInBounds_toArray, List.set_cons_zero, List.set_cons_succ]
    refine wpAnyH_done (by kernel_rfl) ?_ _
    have HT := Lib.hid hT
    have H2 := Lib.hid hHeld
    clear hT h2 hHeld
    obtain ⟨m1, m2⟩ := X12.out.ne
    go_wp2
    go_ret
    exact ⟨tb, rfl, Nat.le_trans T2.out.size htle, ⟨(H2.out.block xb (Array.getElem?_eq_some_iff.1 X12.out.ptr).1 m1 m2).trans X12.out.ptr, HT.out⟩, (H2.out.block tb (Array.getElem?_eq_some_iff.1 TK12.out).1 n5 n6).trans TK12.out, (T2.out.trans (two_ofB B12.out)).trans H2.out⟩
end Go.Proofs.YtpanmfdbdgecaaaGreat.C

namespace Go.Proofs.YtpanmfdbdgecaaaGreat.C
open Go.RowKit
set_option linter.unusedVariables false
set_option maxRecDepth 100000 in
set_option maxHeartbeats 1000000 in
theorem box_take (xb pb b room : Nat) (l l' : List Plc) (nn nn' term rate burst now til : Int) (tb : Nat) (rt most level tn m : Int) (p0 p1 p2 : Nat) (w : World) (h : BxAt w xb pb b l room nn term rate burst) (hs : Sweeps xb pb b room l nn term rate burst now l' nn') (hg : Gets l' p0 p1 p2 til (some ⟨tb, 0, none⟩) true) (hk : TkAt w tb rt most level tn) (htn : 0 ≤ tn) (hnow : 0 ≤ now ∧ now ≤ 4611686018427387904) (hlv : 0 ≤ level ∧ level ≤ 1125899906842624) (hmo : 0 ≤ most ∧ most ≤ 1125899906842624) :
    Calls Tryz.prog 73 #[.pointer (some ⟨xb, 0, none⟩), .agg (pfx p0 p1 p2), .int .i64 now, .int .i64 m] w fun e w' => e = .returned (.bool (takesT (levelT rt most level tn now) m)) ∧ BxAt w' xb pb b l' room nn' term rate burst ∧ TkAt w' tb rt most (if takesT (levelT rt most level tn now) m then levelT rt most level tn now - m * 1048576 else levelT rt most level tn now) (if tn < now then now else tn) ∧ Amg [pb, b, tb] w w' := by
  have HS := Lib.hid hs
  have HK := Lib.hid hk
  have q1 := ne_ty hk h.tb.ptr (by decide)
  have q2 := ne_ty hk h.tb.row (by decide)
  have hCT := fun (w' : World) (q : TkAt w' tb rt most level tn) => token_take tb rt most level tn now m w' q htn hnow.1 hnow.2 hlv hmo
  generalize takesT (levelT rt most level tn now) m = q at *
  generalize (if q = true then levelT rt most level tn now - m * 1048576 else levelT rt most level tn now) = lv2 at *
  generalize (if tn < now then now else tn) = tn2 at *
  have HCT := Lib.hid hCT
  clear hk hCT
  have hmx : (if now < 0 then (0 : Int) else now) = now := if_neg (by omega)
  have hmx2 : (if (0 : Int) < now then now else 0) = now := by split <;> omega
  obtain ⟨tk, htk⟩ : ∃ x : Option Addr, x = some ⟨tb, 0, none⟩ := ⟨_, rfl⟩
  rw [← htk] at hg
  have HTK := Lib.hid htk
  clear htk
  have HH := Lib.hid h
  have hcg := fun (w' : World) (q : TbAt w' pb b l' room nn') => table_get hg w' q
  have HCG := Lib.hid hcg
  have hps : (Tryz.prog.info? 65).map (·.size) = some (pfx p0 p1 p2).size := pf_size
  have HPS := Lib.hid hps
  clear h hg hcg hs hps
  generalize pfx p0 p1 p2 = p at *
  go_enter Tryz.func73, Tryz.ntmps73
  go_upto_region 1 with ((with_reducible refine arm_box 5 1 65 p ?_ ?_); rfl; intro w1 HB HX HS1)
  have CS := Lib.hid (HS.out w1 (HH.out.below HB.out))
  go_wp2_with fail
  refine CS.out.mono ?_
  rintro e w2 ⟨rfl, hX2, hT2⟩
  have h1 := HH.out.below HB.out
  have n1 := ne_ty HX.out h1.tb.ptr (by decide)
  have n2 := ne_ty HX.out h1.tb.row (by decide)
  have P2 := Lib.hid ((hT2.block _ (Array.getElem?_eq_some_iff.1 HX.out).1 n1 n2).trans HX.out)
  have T2 := Lib.hid (two_ofB (x := pb) (y := b) HB.out |>.trans hT2)
  have HX2 := Lib.hid hX2
  have TK2 : Hid (TkAt w2 tb rt most level tn) := Lib.hid ((hT2.block tb (Array.getElem?_eq_some_iff.1 (HK.out.below HB.out)).1 q1 q2).trans (HK.out.below HB.out))
  clear hX2 hT2 h1 n1 n2 CS HX HS1 HB
  have HL : Hid (∀ w', Below w2.heap.size w2 w' → w'.cell? ⟨xb, 0, none⟩ = some (.pointer (some ⟨pb, 0, none⟩)) ∧ (Instr.loadAt 65 (.pointer (some ⟨w.heap.size, 0, none⟩))).run Tryz.prog w' = .ok (.agg p) w') := Lib.hid fun w' q => ⟨(HX2.out.below q).cells.1, box_load (t := 65) (keep_block q P2.out) _ Tryz.underlying65 rfl HPS.out⟩
  have CG : Hid (∀ w', Below w2.heap.size w2 w' → Calls Tryz.prog 69 #[.pointer (some ⟨pb, 0, none⟩), .agg p] w' fun e w'' => e = .returned (.tuple #[.agg #[.int .i64 til, .pointer tk], .bool true]) ∧ Below w'.heap.size w' w'') := Lib.hid fun w' q => HCG.out w' (HX2.out.below q).tb
  go_wp2_with fail
  refine wp_region_held_drew (S := Below w2.heap.size w2) (by kernel_rfl) (Below.refl _ _).drew (fun hHeld => ?_)
  refine wpAnyH_take (i := 0) (oi := ⟨some 16, _, _, _, _, _⟩) (v := ?_) rfl (by kernel_rfl) (by kernel_rfl) (by kernel_rfl) (fun _ _ _ h => h) (Or.inl ⟨by rfl, ?_⟩) hHeld ?_
  rotate_left
  · intro w hSw
    go_simp
    try with_reducible rfl
  try simp only [Act.put, List.setIfInBounds_toArray, List.set_cons_zero, List.set_cons_succ]
  refine wpAnyH_take (i := 1) (oi := ⟨some 17, _, _, _, _, _⟩) (v := ?_) rfl (by kernel_rfl) (by kernel_rfl) (by kernel_rfl) (fun _ _ _ h => h) (Or.inl ⟨by rfl, ?_⟩) hHeld ?_
  rotate_left
  · intro w hSw
    go_simp
    try with_reducible rfl
  try simp only [Act.put, List.setIfInBounds_toArray, List.set_cons_zero, List.set_cons_succ]
  refine wpAnyH_take (i := 2) (oi := ⟨some 18, _, _, _, _, _⟩) (v := ?_) rfl (by kernel_rfl) (by kernel_rfl) (by kernel_rfl) (fun _ _ _ h => h) (Or.inl ⟨by rfl, ?_⟩) hHeld ?_
  rotate_left
  · intro w hSw
    go_simp
    try with_reducible rfl
  try simp only [Act.put, List.setIfInBounds_toArray, List.set_cons_zero, List.set_cons_succ]
  refine wpAnyH_take (i := 3) (oi := ⟨some 19, _, _, _, _, _⟩) (v := ?_) rfl (by kernel_rfl) (by kernel_rfl) (by kernel_rfl) (fun _ _ _ h => h) (Or.inl ⟨by rfl, ?_⟩) hHeld ?_
  rotate_left
  · intro w hSw
    obtain ⟨k0, _⟩ := HL.out w hSw
    go_simp
    try with_reducible rfl
  try simp only [Act.put, List.setIfInBounds_toArray, List.set_cons_zero, List.set_cons_succ]
  refine wpAnyH_take (i := 4) (oi := ⟨some 20, _, _, _, _, _⟩) (v := .agg p) rfl (by kernel_rfl) (by kernel_rfl) (by kernel_rfl) (fun _ _ _ h => h) (Or.inl ⟨by rfl, fun w hSw => exec_load rfl (HL.out w hSw).2⟩) hHeld ?_
  try simp only [Act.put, List.setIfInBounds_toArray, List.set_cons_zero, List.set_cons_succ]
  refine wpAnyH_ready (rs := [5, 9]) (by kernel_rfl) (by simp) ?_
  refine AllReadyH.cons rfl (fun K hK => ?_) (AllReadyH.cons rfl (fun K hK => ?_) AllReadyH.nil)
  · skip
    go_simp
    go_wp2_with (go_at_call 69; go_must (refine (CG.out _ hHeld).mono ?_; rintro e w5 ⟨rfl, hB⟩))
    refine hK.out _ _ (hHeld.trans (hB.mono hHeld.size)) (fun hHeld => ?_)
    clear hK K
    refine wpAnyH_take (i := 6) (oi := ⟨some 15, _, _, _, _, _⟩) (v := ?_) rfl (by kernel_rfl) (by kernel_rfl) (by kernel_rfl) (fun _ _ _ h => h) (Or.inl ⟨by rfl, ?_⟩) hHeld ?_
    rotate_left
    · intro w hSw
      go_simp
      try with_reducible rfl
    try simp only [Act.put, List.setIfInBounds_toArray, List.set_cons_zero, List.set_cons_succ]
    refine wpAnyH_take (i := 7) (oi := ⟨some 22, _, _, _, _, _⟩) (v := ?_) rfl (by kernel_rfl) (by kernel_rfl) (by kernel_rfl) (fun _ _ _ h => h) (Or.inl ⟨by rfl, ?_⟩) hHeld ?_
    rotate_left
    · intro w hSw
      go_simp
      try with_reducible rfl
    try simp only [Act.put, List.setIfInBounds_toArray, List.set_cons_zero, List.set_cons_succ]
    refine wpAnyH_take (i := 8) (oi := ⟨some 23, _, _, _, _, _⟩) (v := ?_) rfl (by kernel_rfl) (by kernel_rfl) (by kernel_rfl) (fun _ _ _ h => h) (Or.inl ⟨by rfl, ?_⟩) hHeld ?_
    rotate_left
    · intro w hSw
      go_simp
      try with_reducible rfl
    try simp only [Act.put, List.setIfInBounds_toArray, List.set_cons_zero, List.set_cons_succ]
    refine wpAnyH_ready (rs := [9]) (by kernel_rfl) (by simp) ?_
    refine AllReadyH.cons rfl (fun K hK => ?_) AllReadyH.nil
    have hS9 := hHeld.size; refine step_alloc 9 199 EZ 2 ez_zero ?_; intro W9 HB9 HX9 HS9
    refine hK.out _ _ (hHeld.trans (HB9.out.mono hHeld.size)) (fun hHeld => ?_)
    clear hK K
    refine wpAnyH_ready (rs := [10]) (by kernel_rfl) (by simp) ?_
    refine AllReadyH.cons rfl (fun K hK => ?_) AllReadyH.nil
    have HBX := Lib.hid (box_whole (cs := #[.int .i64 til, .pointer tk]) HX9.out rfl); refine step_store 9 22 199 _ _ _ (box_store (x := #[.int .i64 til, .pointer tk]) HX9.out ent_size (by kernel_rfl) rfl) rfl rfl ?_
    refine hK.out _ _ (below_setCells hS9 _ _ hHeld) (fun hHeld => ?_)
    clear hK K
    refine wpAnyH_take (i := 11) (oi := ⟨some 10, _, _, _, _, _⟩) (v := ?_) rfl (by kernel_rfl) (by kernel_rfl) (by kernel_rfl) (fun _ _ _ h => h) (Or.inl ⟨by rfl, ?_⟩) hHeld ?_
    rotate_left
    · intro w hSw
      go_simp
      try with_reducible rfl
    try simp only [Act.put, List.setIfInBounds_toArray, List.set_cons_zero, List.set_cons_succ]
    refine wpAnyH_done (by kernel_rfl) ?_ _
    have HE := Lib.hid hHeld
    clear hHeld
    try simp only [Act.put, List.setIfInBounds_toArray, List.set_cons_zero, List.set_cons_succ]
    generalize World.setCells _ _ 0 (#[.int .i64 til, .pointer tk] : Array Value).toList = wE at *
    have k9 := cells_of_row HBX.out 1 _ rfl
    rw [HTK.out] at k9
    try have k9' : wE.cell? ⟨w2.heap.size, 1, none⟩ = some (.pointer (some ⟨tb, 0, none⟩)) := k9
    have CT := Lib.hid (HCT.out wE (TK2.out.below HE.out))
    go_wp2_with fail
    refine CT.out.mono ?_
    rintro e w9 ⟨rfl, hTk, hT9⟩
    have HTk := Lib.hid hTk
    have hXE := HX2.out.below HE.out
    have hXt := hXE.ne
    have hTT := TK2.out.below HE.out
    have m1 := ne_ty hXE.ptr hTT (by decide)
    have m2 := ne_ty hXE.tb.ptr hTT (by decide)
    have m3 := ne_ty hXE.tb.row hTT (by decide)
    have hX9 : BxAt w9 xb pb b l' room nn' term rate burst := ⟨(hT9.block xb (Array.getElem?_eq_some_iff.1 hXE.ptr).1 m1 m1).trans hXE.ptr, ⟨(hT9.block pb (Array.getElem?_eq_some_iff.1 hXE.tb.ptr).1 m2 m2).trans hXE.tb.ptr, (hT9.block b (Array.getElem?_eq_some_iff.1 hXE.tb.row).1 m3 m3).trans hXE.tb.row, hXE.tb.len, hXE.tb.pre⟩⟩
    have HX9 := Lib.hid hX9
    have HAM := Lib.hid (((Amg.of_two (T2.out.trans (two_ofB HE.out)) (by simp) (by simp)).trans (Amg.of_two hT9 (by simp) (by simp)) : Amg [pb, b, tb] w w9))
    clear hTk hT9 CT k9 hXE hXt hTT m1 m2 m3 hX9
    go_wp2
    go_ret
    exact ⟨rfl, HX9.out, HTk.out, HAM.out⟩
  · skip
    have hS9 := hHeld.size; refine step_alloc 9 199 EZ 2 ez_zero ?_; intro W9 HB9 HX9 HS9
    refine hK.out _ _ (hHeld.trans (HB9.out.mono hHeld.size)) (fun hHeld => ?_)
    clear hK K
    refine wpAnyH_ready (rs := [5]) (by kernel_rfl) (by simp) ?_
    refine AllReadyH.cons rfl (fun K hK => ?_) AllReadyH.nil
    go_simp
    go_wp2_with (go_at_call 69; go_must (refine (CG.out _ hHeld).mono ?_; rintro e w5 ⟨rfl, hB⟩))
    refine hK.out _ _ (hHeld.trans (hB.mono hHeld.size)) (fun hHeld => ?_)
    clear hK K
    have HX10 := Lib.hid (keep_block hB HX9.out)
    refine wpAnyH_take (i := 6) (oi := ⟨some 15, _, _, _, _, _⟩) (v := ?_) rfl (by kernel_rfl) (by kernel_rfl) (by kernel_rfl) (fun _ _ _ h => h) (Or.inl ⟨by rfl, ?_⟩) hHeld ?_
    rotate_left
    · intro w hSw
      go_simp
      try with_reducible rfl
    try simp only [Act.put, List.setIfInBounds_toArray, List.set_cons_zero, List.set_cons_succ]
    refine wpAnyH_take (i := 7) (oi := ⟨some 22, _, _, _, _, _⟩) (v := ?_) rfl (by kernel_rfl) (by kernel_rfl) (by kernel_rfl) (fun _ _ _ h => h) (Or.inl ⟨by rfl, ?_⟩) hHeld ?_
    rotate_left
    · intro w hSw
      go_simp
      try with_reducible rfl
    try simp only [Act.put, List.setIfInBounds_toArray, List.set_cons_zero, List.set_cons_succ]
    refine wpAnyH_take (i := 8) (oi := ⟨some 23, _, _, _, _, _⟩) (v := ?_) rfl (by kernel_rfl) (by kernel_rfl) (by kernel_rfl) (fun _ _ _ h => h) (Or.inl ⟨by rfl, ?_⟩) hHeld ?_
    rotate_left
    · intro w hSw
      go_simp
      try with_reducible rfl
    try simp only [Act.put, List.setIfInBounds_toArray, List.set_cons_zero, List.set_cons_succ]
    refine wpAnyH_ready (rs := [10]) (by kernel_rfl) (by simp) ?_
    refine AllReadyH.cons rfl (fun K hK => ?_) AllReadyH.nil
    have HBX := Lib.hid (box_whole (cs := #[.int .i64 til, .pointer tk]) HX10.out rfl); refine step_store 9 22 199 _ _ _ (box_store (x := #[.int .i64 til, .pointer tk]) HX10.out ent_size (by kernel_rfl) rfl) rfl rfl ?_
    refine hK.out _ _ (below_setCells hS9 _ _ hHeld) (fun hHeld => ?_)
    clear hK K
    refine wpAnyH_take (i := 11) (oi := ⟨some 10, _, _, _, _, _⟩) (v := ?_) rfl (by kernel_rfl) (by kernel_rfl) (by kernel_rfl) (fun _ _ _ h => h) (Or.inl ⟨by rfl, ?_⟩) hHeld ?_
    rotate_left
    · intro w hSw
      go_simp
      try with_reducible rfl
    try simp only [Act.put, List.setIfInBounds_toArray, List.set_cons_zero, List.set_cons_succ]
    refine wpAnyH_done (by kernel_rfl) ?_ _
    have HE := Lib.hid hHeld
    clear hHeld
    try simp only [Act.put, List.setIfInBounds_toArray, List.set_cons_zero, List.set_cons_succ]
    generalize World.setCells _ _ 0 (#[.int .i64 til, .pointer tk] : Array Value).toList = wE at *
    have k9 := cells_of_row HBX.out 1 _ rfl
    rw [HTK.out] at k9
    try have k9' : wE.cell? ⟨w2.heap.size, 1, none⟩ = some (.pointer (some ⟨tb, 0, none⟩)) := k9
    have CT := Lib.hid (HCT.out wE (TK2.out.below HE.out))
    go_wp2_with fail
    refine CT.out.mono ?_
    rintro e w9 ⟨rfl, hTk, hT9⟩
    have HTk := Lib.hid hTk
    have hXE := HX2.out.below HE.out
    have hXt := hXE.ne
    have hTT := TK2.out.below HE.out
    have m1 := ne_ty hXE.ptr hTT (by decide)
    have m2 := ne_ty hXE.tb.ptr hTT (by decide)
    have m3 := ne_ty hXE.tb.row hTT (by decide)
    have hX9 : BxAt w9 xb pb b l' room nn' term rate burst := ⟨(hT9.block xb (Array.getElem?_eq_some_iff.1 hXE.ptr).1 m1 m1).trans hXE.ptr, ⟨(hT9.block pb (Array.getElem?_eq_some_iff.1 hXE.tb.ptr).1 m2 m2).trans hXE.tb.ptr, (hT9.block b (Array.getElem?_eq_some_iff.1 hXE.tb.row).1 m3 m3).trans hXE.tb.row, hXE.tb.len, hXE.tb.pre⟩⟩
    have HX9 := Lib.hid hX9
    have HAM := Lib.hid (((Amg.of_two (T2.out.trans (two_ofB HE.out)) (by simp) (by simp)).trans (Amg.of_two hT9 (by simp) (by simp)) : Amg [pb, b, tb] w w9))
    clear hTk hT9 CT k9 hXE hXt hTT m1 m2 m3 hX9
    go_wp2
    go_ret
    exact ⟨rfl, HX9.out, HTk.out, HAM.out⟩
end Go.Proofs.YtpanmfdbdgecaaaGreat.C
