/- The walk of the reference's Push (chains): done. -/
import Derived.Test.YtgcfiiidhihkaaaChainU
namespace Go.Proofs.Ytgcfiiidhihkaaa.C
open Go.RowKit
set_option linter.unusedVariables false
theorem natV_one (q : List Nat) : ∀ u ∈ natV q, u.oneCell' = true := by
  intro u hu
  obtain ⟨z, _, rfl⟩ := List.mem_map.1 hu
  rfl
set_option maxRecDepth 100000 in
set_option maxHeartbeats 2000000 in
theorem rc_push_yes (base g cap m l p : Nat) (S : List Value) (Q : List (List Nat)) (q : List Nat) (w : World) (h : CR w base g cap S Q) (hQ : Q.length ≤ 129) (hm : m ≤ 4096) (hq4 : ∀ q ∈ Q, q.length ≤ 4096) (hq : Q[l]? = some q) (hp : p < m) (hl : lineQ Q (p : Nat) = -1) :
    Calls Try.prog 35 #[cv g cap Q.length m, .int .i64 (l : Nat), .int .i64 (p : Nat)] w fun e w' => ∃ g' cap' S', e = .returned (.tuple #[cv g' cap' Q.length m, .bool true]) ∧ CR w' base g' cap' S' (Q.set l (q ++ [p])) ∧ Below w.heap.size w w' := by
  obtain ⟨i0, hi, hz0, hz1, hz2⟩ := info_parts int_info
  have Hi := Lib.hid hi
  have Hz0 := Lib.hid hz0
  have Hz1 := Lib.hid hz1
  have Hz2 := Lib.hid hz2
  have CL := Lib.hid (fun w' hR => rc_line base g cap m (p : Nat) S Q w' hR hQ hq4)
  rw [hl] at CL
  have hln := lt_of_some hq
  have hq4' := hq4 q (List.mem_of_getElem? hq)
  have CW := Lib.hid (fun x w' hR hx => rc_with base g cap m l S Q (q ++ [p]) x w' hR hx hln hQ)
  obtain ⟨hK, hb2⟩ := two_boxes (m := m) h
  have hgl := h.lt
  have HQQ := Lib.hid hq
  clear h hq4 hi hz0 hz1 hz2 hl hq
  have HK := Lib.hid hK
  have HB2 := Lib.hid hb2
  have d0 : decide ((Q.length : Int) ≤ (l : Int)) = false := decide_eq_false (by omega)
  have d1 : decide (Q.length ≤ l) = false := decide_eq_false (by omega)
  have d2 : decide ((m : Int) ≤ (p : Int)) = false := decide_eq_false (by omega)
  have d3 : decide (m ≤ p) = false := decide_eq_false (by omega)
  have hlI : (l : Int) < (Q.length : Int) := by omega
  generalize hn : Q.length = n at *
  have HN := Lib.hid hn
  clear hn hK hb2
  go_enter Try.func35, Try.ntmps35
  go_upto_region 1 with (fail)
  generalize (w.alloc (.cells #[.slice (some ⟨g, 0, none⟩) n cap, .int .i64 (m : Nat)] 57)).alloc (.cells #[.slice none 0 0, .int .i64 0] 57) = wA at *
  have k0 := HK.out.c0
  rw [HN.out] at k0
  have k1 := HK.out.c1
  go_wp2_with fail
  refine (CL.out _ HK.out.row).mono ?_
  rintro e w1 ⟨rfl, hB⟩
  have hK1 := HK.out.next hB
  have hb1 := keepB hB HB2.out
  clear k0 k1 HK HB2 CL hB
  obtain ⟨A, c, cl, _, hrow, _⟩ := hK1.row.line HQQ.out
  have hbs : base ≤ w1.heap.size := by have := hK1.row.lt; omega
  have HF : Hid (∀ w', Two (w.heap.size + 1) (w.heap.size + 1) w1 w' → w'.cell? ⟨w.heap.size, 0, none⟩ = some (.slice (some ⟨g, 0, none⟩) n cap) ∧ w'.cell? ⟨w.heap.size, 1, none⟩ = some (.int .i64 (m : Nat)) ∧ w'.cell? ⟨g, l, none⟩ = some (.slice A q.length c)) := fun w' ht => by
    have k0 := hK1.c0
    rw [HN.out] at k0
    exact ⟨ht.keepc k0 (by simp) (by simp), ht.keepc hK1.c1 (by simp) (by simp), ht.keepc cl (by simp; omega) (by simp; omega)⟩
  have HK1 := Lib.hid hK1
  have HB1 := Lib.hid hb1
  have HROW := Lib.hid hrow
  clear hK1 hb1 cl hrow
  generalize hql : q.length = ql at *
  have HQL := Lib.hid hql
  clear hql
  go_wp2_with fail
  refine wp_region_held_drew (S := Two (w.heap.size + 1) (w.heap.size + 1) w1) (by kernel_rfl) ((Two.refl _ _ _).next (Below.refl _ _).drew) (fun hHeld => ?_)
  refine wpAnyH_take (i := 0) (oi := ⟨some 34, _, _, _, _, _⟩) (v := ?_) rfl (by kernel_rfl) (by kernel_rfl) (by kernel_rfl) (fun _ _ _ h => h) (Or.inl ⟨by rfl, ?_⟩) hHeld ?_
  rotate_left
  · intro w hSw
    obtain ⟨k0, k1, k2⟩ := HF.out w hSw
    go_simp
    try with_reducible rfl
  try simp only [Act.put, List.setIfInBounds_toArray, List.set_cons_zero, List.set_cons_succ]
  refine wpAnyH_take (i := 1) (oi := ⟨some 35, _, _, _, _, _⟩) (v := ?_) rfl (by kernel_rfl) (by kernel_rfl) (by kernel_rfl) (fun _ _ _ h => h) (Or.inl ⟨by rfl, ?_⟩) hHeld ?_
  rotate_left
  · intro w hSw
    go_simp
    try with_reducible rfl
  try simp only [Act.put, List.setIfInBounds_toArray, List.set_cons_zero, List.set_cons_succ]
  refine wpAnyH_take (i := 3) (oi := ⟨some 37, _, _, _, _, _⟩) (v := ?_) rfl (by kernel_rfl) (by kernel_rfl) (by kernel_rfl) (fun _ _ _ h => h) (Or.inl ⟨by rfl, ?_⟩) hHeld ?_
  rotate_left
  · intro w hSw
    go_simp
    try with_reducible rfl
  try simp only [Act.put, List.setIfInBounds_toArray, List.set_cons_zero, List.set_cons_succ]
  refine wpAnyH_take (i := 4) (oi := ⟨some 38, _, _, _, _, _⟩) (v := ?_) rfl (by kernel_rfl) (by kernel_rfl) (by kernel_rfl) (fun _ _ _ h => h) (Or.inl ⟨by rfl, ?_⟩) hHeld ?_
  rotate_left
  · intro w hSw
    obtain ⟨k0, k1, k2⟩ := HF.out w hSw
    go_simp
    try with_reducible rfl
  try simp only [Act.put, List.setIfInBounds_toArray, List.set_cons_zero, List.set_cons_succ]
  refine wpAnyH_take (i := 5) (oi := ⟨some 39, _, _, _, _, _⟩) (v := ?_) rfl (by kernel_rfl) (by kernel_rfl) (by kernel_rfl) (fun _ _ _ h => h) (Or.inl ⟨by rfl, ?_⟩) hHeld ?_
  rotate_left
  · intro w hSw
    go_simp
    try with_reducible rfl
  try simp only [Act.put, List.setIfInBounds_toArray, List.set_cons_zero, List.set_cons_succ]
  refine wpAnyH_take (i := 6) (oi := ⟨some 40, _, _, _, _, _⟩) (v := ?_) rfl (by kernel_rfl) (by kernel_rfl) (by kernel_rfl) (fun _ _ _ h => h) (Or.inl ⟨by rfl, ?_⟩) hHeld ?_
  rotate_left
  · intro w hSw
    go_simp
    try with_reducible rfl
  try simp only [Act.put, List.setIfInBounds_toArray, List.set_cons_zero, List.set_cons_succ]
  refine wpAnyH_take (i := 7) (oi := ⟨some 41, _, _, _, _, _⟩) (v := ?_) rfl (by kernel_rfl) (by kernel_rfl) (by kernel_rfl) (fun _ _ _ h => h) (Or.inl ⟨by rfl, ?_⟩) hHeld ?_
  rotate_left
  · intro w hSw
    obtain ⟨k0, k1, k2⟩ := HF.out w hSw
    go_simp
    try with_reducible rfl
  try simp only [Act.put, List.setIfInBounds_toArray, List.set_cons_zero, List.set_cons_succ]
  refine wpAnyH_take (i := 9) (oi := ⟨some 43, _, _, _, _, _⟩) (v := ?_) rfl (by kernel_rfl) (by kernel_rfl) (by kernel_rfl) (fun _ _ _ h => h) (Or.inl ⟨by rfl, ?_⟩) hHeld ?_
  rotate_left
  · intro w hSw
    go_simp
    try with_reducible rfl
  try simp only [Act.put, List.setIfInBounds_toArray, List.set_cons_zero, List.set_cons_succ]
  refine wpAnyH_ready (rs := [2, 10]) (by kernel_rfl) (by simp) ?_
  refine AllReadyH.cons (o := ⟨some 36, _, _, _, _, _⟩) rfl (fun K hK => ?_) (AllReadyH.cons (o := ⟨some 44, _, _, _, _, _⟩) rfl (fun K hK => ?_) AllReadyH.nil)
  · go_simp
    refine hK.out _ _ (hHeld.next ((Below.refl _ _).alloc (Nat.le_refl _) _)) (fun hHeld => ?_)
    clear hK K
    have hB : Below w1.heap.size w1 ((w1.alloc (.cells #[] 3)).drew) := ((Below.refl _ _).alloc (Nat.le_refl _) _).drew
    have hE : ((w1.alloc (.cells #[] 3)).drew).ownsRow base 3 1 (.slice (some ⟨w1.heap.size, 0, none⟩) 0 0) 0 [] := own_empty (Go.heap_alloc_new w1 _) hbs
    generalize (w1.alloc (.cells #[] 3)).drew = W1 at *
    have hB0 := hB
    refine wpAnyH_ready (rs := [8, 10]) (by kernel_rfl) (by simp) ?_
    refine AllReadyH.cons (o := ⟨some 42, _, _, _, _, _⟩) rfl (fun K hK => ?_) (AllReadyH.cons (o := ⟨some 44, _, _, _, _, _⟩) rfl (fun K hK => ?_) AllReadyH.nil)
    · rw [if_pos (by rfl)]
      refine wp_append_rows _ (.tmp 36) (.tmp 41) 35 rfl base 3 i0 (.int .i64 0) 1 8 Try.underlying35 Hi.out Hz0.out Hz1.out Hz2.out rfl (by omega) _ 0 [] (by rfl) hE (.slice A ql c) base ql (natV q) (by rfl) (own_below HROW.out hB) (natV_one q) (by simp only [maxLen]; omega) (by omega) (Nat.le_trans hbs hB.size) ?_
      intro v6 W2 hE6 hg6 hat6
      have hB : Below w1.heap.size w1 W2 := hB.grown hg6 hB.size (fun q hq => by simp [Value.ownBlock] at hq; omega)
      have hge6 : ∀ q, v6.ownBlock = some q → w1.heap.size ≤ q := by
        intro q hq
        rcases hat6 with h | h
        · rw [h] at hq; simp [Value.ownBlock] at hq; omega
        · rw [h] at hq; simp at hq; have := hB0.size; omega
      rw [Nat.zero_add, List.nil_append] at hE6
      obtain ⟨A6, c6, rfl⟩ := own_slice hE6
      have hE := hE6
      clear hE6 hg6 hat6
      refine hK.out _ _ (Two.ofBelow hB) (fun hHeld => ?_)
      clear hK K
      try simp only [Act.put, List.setIfInBounds_toArray, List.set_cons_zero, List.set_cons_succ]
      have hB0 := hB
      refine wpAnyH_ready (rs := [10]) (by kernel_rfl) (by simp) ?_
      refine AllReadyH.cons (o := ⟨some 44, _, _, _, _, _⟩) rfl (fun K hK => ?_) AllReadyH.nil
      · go_simp
        refine hK.out _ _ (hHeld.next ((Below.refl _ _).alloc (Nat.le_refl _) _)) (fun hHeld => ?_)
        clear hK K
        have hB : Below w1.heap.size w1 (W2.alloc (.cells #[.int .i64 (p : Nat)] 3)) := hB.alloc hB.size _
        have hPo : (W2.alloc (.cells #[.int .i64 (p : Nat)] 3)).ownsRow base 3 1 (.slice (some ⟨W2.heap.size, 0, none⟩) 1 1) 1 [.int .i64 (p : Nat)] := World.ownsRow_lit W2 #[.int .i64 (p : Nat)] 1 (Nat.le_trans hbs hB0.size) (by simp [maxLen]) rfl
        have hE := hE.alloc (.cells #[.int .i64 (p : Nat)] 3)
        have hge : w1.heap.size ≤ W2.heap.size := hB0.size
        generalize W2.alloc (.cells #[.int .i64 (p : Nat)] 3) = W3 at *
        have hB0 := hB
        refine wpAnyH_ready (rs := [11]) (by kernel_rfl) (by simp) ?_
        refine AllReadyH.cons (o := ⟨some 45, _, _, _, _, _⟩) rfl (fun K hK => ?_) AllReadyH.nil
        · rw [if_pos (by rfl)]
          refine wp_append_rows _ (.tmp 42) (.tmp 44) 35 rfl base 3 i0 (.int .i64 0) 1 8 Try.underlying35 Hi.out Hz0.out Hz1.out Hz2.out rfl (by omega) _ ql (natV q) (by rfl) hE _ base 1 [.int .i64 (p : Nat)] (by rfl) hPo (by simp [Value.oneCell']) (by simp only [maxLen]; omega) (by omega) (Nat.le_trans hbs hB.size) ?_
          intro v9 W4 hE9 hg9 hat9
          have hB : Below w1.heap.size w1 W4 := hB.grown hg9 hB.size hge6
          rw [show natV q ++ [Value.int .i64 (p : Nat)] = natV (q ++ [p]) by simp [natV], show ql + 1 = (q ++ [p]).length by rw [List.length_append, HQL.out]; rfl] at hE9
          refine hK.out _ _ (Two.ofBelow hB) (fun hHeld => ?_)
          clear hK K hg9 hat9
          try simp only [Act.put, List.setIfInBounds_toArray, List.set_cons_zero, List.set_cons_succ]
          refine wpAnyH_ready (rs := [12]) (by kernel_rfl) (by simp) ?_
          refine AllReadyH.cons rfl (fun K hK => ?_) AllReadyH.nil
          go_simp
          go_wp2_with (go_at_call 61; go_must (refine (CW.out _ _ (HK1.out.row.below hB) hE9).mono ?_; rintro e w12 ⟨g', cap', rfl, hC, hB12⟩))
          have hB13 := hB.trans (hB12.mono hB.size)
          refine hK.out _ _ (Two.ofBelow hB13) (fun hHeld => ?_)
          clear hK K
          have hb13 := keepB hB13 HB1.out
          obtain ⟨c0, c1, f0, f1⟩ := box_facts2 hb13
          have HC := Lib.hid hC
          have HB13 := Lib.hid hB13
          have Hb13 := Lib.hid hb13
          clear hC hB12 hB13 hb13 hB hE hPo hE9
          refine wpAnyH_ready (rs := [13]) (by kernel_rfl) (by simp) ?_
          refine AllReadyH.cons rfl (fun K hK => ?_) AllReadyH.nil
          go_simp
          refine hK.out _ _ ((hHeld.setCell (.inl rfl) _).setCell (.inl rfl) _) (fun hHeld => ?_)
          clear hK K
          refine wpAnyH_take (i := 14) (oi := ⟨some 7, _, _, _, _, _⟩) (v := ?_) rfl (by kernel_rfl) (by kernel_rfl) (by kernel_rfl) (fun _ _ _ h => h) (Or.inl ⟨by rfl, ?_⟩) hHeld ?_
          rotate_left
          · intro w hSw
            go_simp
            try with_reducible rfl
          try simp only [Act.put, List.setIfInBounds_toArray, List.set_cons_zero, List.set_cons_succ]
          refine wpAnyH_done (by kernel_rfl) ?_ _
          go_wp2_with fail
          (try simp only [Exit.inBlock, Exit.then])
          refine bodyPost_ret (results_row_tmp rfl _ _ _ _ _ _ _ rfl (box2 Hb13.out _ _) Try.underlying57 rfl rfl) rfl ?_
          exact ⟨g', cap', _, rfl, HC.out.result Hb13.out (HK1.out.below.trans (HB13.out.mono HK1.out.below.size)) (by omega) _ _⟩
    · go_simp
      refine hK.out _ _ (hHeld.next ((Below.refl _ _).alloc (Nat.le_refl _) _)) (fun hHeld => ?_)
      clear hK K
      have hB : Below w1.heap.size w1 (W1.alloc (.cells #[.int .i64 (p : Nat)] 3)) := hB.alloc hB.size _
      have hPo : (W1.alloc (.cells #[.int .i64 (p : Nat)] 3)).ownsRow base 3 1 (.slice (some ⟨W1.heap.size, 0, none⟩) 1 1) 1 [.int .i64 (p : Nat)] := World.ownsRow_lit W1 #[.int .i64 (p : Nat)] 1 (Nat.le_trans hbs hB0.size) (by simp [maxLen]) rfl
      have hne : w1.heap.size < W1.heap.size := (World.ownsRow.lt hE _ rfl).2
      have hE := hE.alloc (.cells #[.int .i64 (p : Nat)] 3)
      have hge : w1.heap.size ≤ W1.heap.size := hB0.size
      generalize W1.alloc (.cells #[.int .i64 (p : Nat)] 3) = W2 at *
      have hB0 := hB
      refine wpAnyH_ready (rs := [8]) (by kernel_rfl) (by simp) ?_
      refine AllReadyH.cons (o := ⟨some 42, _, _, _, _, _⟩) rfl (fun K hK => ?_) AllReadyH.nil
      · rw [if_pos (by rfl)]
        refine wp_append_rows _ (.tmp 36) (.tmp 41) 35 rfl base 3 i0 (.int .i64 0) 1 8 Try.underlying35 Hi.out Hz0.out Hz1.out Hz2.out rfl (by omega) _ 0 [] (by rfl) hE (.slice A ql c) base ql (natV q) (by rfl) (own_below HROW.out hB) (natV_one q) (by simp only [maxLen]; omega) (by omega) (Nat.le_trans hbs hB.size) ?_
        intro v6 W3 hE6 hg6 hat6
        have hB : Below w1.heap.size w1 W3 := hB.grown hg6 hB.size (fun q hq => by simp [Value.ownBlock] at hq; omega)
        have hge6 : ∀ q, v6.ownBlock = some q → w1.heap.size ≤ q := by
          intro q hq
          rcases hat6 with h | h
          · rw [h] at hq; simp [Value.ownBlock] at hq; omega
          · rw [h] at hq; simp at hq; have := hB0.size; omega
        have hPo := hPo.kept hg6 (.inr (by simp [Value.ownBlock]; omega))
        rw [Nat.zero_add, List.nil_append] at hE6
        obtain ⟨A6, c6, rfl⟩ := own_slice hE6
        have hE := hE6
        clear hE6 hg6 hat6
        refine hK.out _ _ (Two.ofBelow hB) (fun hHeld => ?_)
        clear hK K
        try simp only [Act.put, List.setIfInBounds_toArray, List.set_cons_zero, List.set_cons_succ]
        have hB0 := hB
        refine wpAnyH_ready (rs := [11]) (by kernel_rfl) (by simp) ?_
        refine AllReadyH.cons (o := ⟨some 45, _, _, _, _, _⟩) rfl (fun K hK => ?_) AllReadyH.nil
        · rw [if_pos (by rfl)]
          refine wp_append_rows _ (.tmp 42) (.tmp 44) 35 rfl base 3 i0 (.int .i64 0) 1 8 Try.underlying35 Hi.out Hz0.out Hz1.out Hz2.out rfl (by omega) _ ql (natV q) (by rfl) hE _ base 1 [.int .i64 (p : Nat)] (by rfl) hPo (by simp [Value.oneCell']) (by simp only [maxLen]; omega) (by omega) (Nat.le_trans hbs hB.size) ?_
          intro v9 W4 hE9 hg9 hat9
          have hB : Below w1.heap.size w1 W4 := hB.grown hg9 hB.size hge6
          rw [show natV q ++ [Value.int .i64 (p : Nat)] = natV (q ++ [p]) by simp [natV], show ql + 1 = (q ++ [p]).length by rw [List.length_append, HQL.out]; rfl] at hE9
          refine hK.out _ _ (Two.ofBelow hB) (fun hHeld => ?_)
          clear hK K hg9 hat9
          try simp only [Act.put, List.setIfInBounds_toArray, List.set_cons_zero, List.set_cons_succ]
          refine wpAnyH_ready (rs := [12]) (by kernel_rfl) (by simp) ?_
          refine AllReadyH.cons rfl (fun K hK => ?_) AllReadyH.nil
          go_simp
          go_wp2_with (go_at_call 61; go_must (refine (CW.out _ _ (HK1.out.row.below hB) hE9).mono ?_; rintro e w12 ⟨g', cap', rfl, hC, hB12⟩))
          have hB13 := hB.trans (hB12.mono hB.size)
          refine hK.out _ _ (Two.ofBelow hB13) (fun hHeld => ?_)
          clear hK K
          have hb13 := keepB hB13 HB1.out
          obtain ⟨c0, c1, f0, f1⟩ := box_facts2 hb13
          have HC := Lib.hid hC
          have HB13 := Lib.hid hB13
          have Hb13 := Lib.hid hb13
          clear hC hB12 hB13 hb13 hB hE hPo hE9
          refine wpAnyH_ready (rs := [13]) (by kernel_rfl) (by simp) ?_
          refine AllReadyH.cons rfl (fun K hK => ?_) AllReadyH.nil
          go_simp
          refine hK.out _ _ ((hHeld.setCell (.inl rfl) _).setCell (.inl rfl) _) (fun hHeld => ?_)
          clear hK K
          refine wpAnyH_take (i := 14) (oi := ⟨some 7, _, _, _, _, _⟩) (v := ?_) rfl (by kernel_rfl) (by kernel_rfl) (by kernel_rfl) (fun _ _ _ h => h) (Or.inl ⟨by rfl, ?_⟩) hHeld ?_
          rotate_left
          · intro w hSw
            go_simp
            try with_reducible rfl
          try simp only [Act.put, List.setIfInBounds_toArray, List.set_cons_zero, List.set_cons_succ]
          refine wpAnyH_done (by kernel_rfl) ?_ _
          go_wp2_with fail
          (try simp only [Exit.inBlock, Exit.then])
          refine bodyPost_ret (results_row_tmp rfl _ _ _ _ _ _ _ rfl (box2 Hb13.out _ _) Try.underlying57 rfl rfl) rfl ?_
          exact ⟨g', cap', _, rfl, HC.out.result Hb13.out (HK1.out.below.trans (HB13.out.mono HK1.out.below.size)) (by omega) _ _⟩
  · go_simp
    refine hK.out _ _ (hHeld.next ((Below.refl _ _).alloc (Nat.le_refl _) _)) (fun hHeld => ?_)
    clear hK K
    have hB : Below w1.heap.size w1 ((w1.alloc (.cells #[.int .i64 (p : Nat)] 3)).drew) := ((Below.refl _ _).alloc (Nat.le_refl _) _).drew
    have hPo : ((w1.alloc (.cells #[.int .i64 (p : Nat)] 3)).drew).ownsRow base 3 1 (.slice (some ⟨w1.heap.size, 0, none⟩) 1 1) 1 [.int .i64 (p : Nat)] := World.ownsRow_lit w1 #[.int .i64 (p : Nat)] 1 hbs (by simp [maxLen]) rfl
    generalize (w1.alloc (.cells #[.int .i64 (p : Nat)] 3)).drew = W1 at *
    have hB0 := hB
    refine wpAnyH_ready (rs := [2]) (by kernel_rfl) (by simp) ?_
    refine AllReadyH.cons (o := ⟨some 36, _, _, _, _, _⟩) rfl (fun K hK => ?_) AllReadyH.nil
    · go_simp
      refine hK.out _ _ (hHeld.next ((Below.refl _ _).alloc (Nat.le_refl _) _)) (fun hHeld => ?_)
      clear hK K
      have hB : Below w1.heap.size w1 (W1.alloc (.cells #[] 3)) := hB.alloc hB.size _
      have hE : (W1.alloc (.cells #[] 3)).ownsRow base 3 1 (.slice (some ⟨W1.heap.size, 0, none⟩) 0 0) 0 [] := own_empty (Go.heap_alloc_new W1 _) (Nat.le_trans hbs hB0.size)
      have hne : w1.heap.size < W1.heap.size := (World.ownsRow.lt hPo _ rfl).2
      have hPo := hPo.alloc (.cells #[] 3)
      have hge : w1.heap.size ≤ W1.heap.size := hB0.size
      generalize W1.alloc (.cells #[] 3) = W2 at *
      have hB0 := hB
      refine wpAnyH_ready (rs := [8]) (by kernel_rfl) (by simp) ?_
      refine AllReadyH.cons (o := ⟨some 42, _, _, _, _, _⟩) rfl (fun K hK => ?_) AllReadyH.nil
      · rw [if_pos (by rfl)]
        refine wp_append_rows _ (.tmp 36) (.tmp 41) 35 rfl base 3 i0 (.int .i64 0) 1 8 Try.underlying35 Hi.out Hz0.out Hz1.out Hz2.out rfl (by omega) _ 0 [] (by rfl) hE (.slice A ql c) base ql (natV q) (by rfl) (own_below HROW.out hB) (natV_one q) (by simp only [maxLen]; omega) (by omega) (Nat.le_trans hbs hB.size) ?_
        intro v6 W3 hE6 hg6 hat6
        have hB : Below w1.heap.size w1 W3 := hB.grown hg6 hB.size (fun q hq => by simp [Value.ownBlock] at hq; omega)
        have hge6 : ∀ q, v6.ownBlock = some q → w1.heap.size ≤ q := by
          intro q hq
          rcases hat6 with h | h
          · rw [h] at hq; simp [Value.ownBlock] at hq; omega
          · rw [h] at hq; simp at hq; have := hB0.size; omega
        have hPo := hPo.kept hg6 (.inr (by simp [Value.ownBlock]; omega))
        rw [Nat.zero_add, List.nil_append] at hE6
        obtain ⟨A6, c6, rfl⟩ := own_slice hE6
        have hE := hE6
        clear hE6 hg6 hat6
        refine hK.out _ _ (Two.ofBelow hB) (fun hHeld => ?_)
        clear hK K
        try simp only [Act.put, List.setIfInBounds_toArray, List.set_cons_zero, List.set_cons_succ]
        have hB0 := hB
        refine wpAnyH_ready (rs := [11]) (by kernel_rfl) (by simp) ?_
        refine AllReadyH.cons (o := ⟨some 45, _, _, _, _, _⟩) rfl (fun K hK => ?_) AllReadyH.nil
        · rw [if_pos (by rfl)]
          refine wp_append_rows _ (.tmp 42) (.tmp 44) 35 rfl base 3 i0 (.int .i64 0) 1 8 Try.underlying35 Hi.out Hz0.out Hz1.out Hz2.out rfl (by omega) _ ql (natV q) (by rfl) hE _ base 1 [.int .i64 (p : Nat)] (by rfl) hPo (by simp [Value.oneCell']) (by simp only [maxLen]; omega) (by omega) (Nat.le_trans hbs hB.size) ?_
          intro v9 W4 hE9 hg9 hat9
          have hB : Below w1.heap.size w1 W4 := hB.grown hg9 hB.size hge6
          rw [show natV q ++ [Value.int .i64 (p : Nat)] = natV (q ++ [p]) by simp [natV], show ql + 1 = (q ++ [p]).length by rw [List.length_append, HQL.out]; rfl] at hE9
          refine hK.out _ _ (Two.ofBelow hB) (fun hHeld => ?_)
          clear hK K hg9 hat9
          try simp only [Act.put, List.setIfInBounds_toArray, List.set_cons_zero, List.set_cons_succ]
          refine wpAnyH_ready (rs := [12]) (by kernel_rfl) (by simp) ?_
          refine AllReadyH.cons rfl (fun K hK => ?_) AllReadyH.nil
          go_simp
          go_wp2_with (go_at_call 61; go_must (refine (CW.out _ _ (HK1.out.row.below hB) hE9).mono ?_; rintro e w12 ⟨g', cap', rfl, hC, hB12⟩))
          have hB13 := hB.trans (hB12.mono hB.size)
          refine hK.out _ _ (Two.ofBelow hB13) (fun hHeld => ?_)
          clear hK K
          have hb13 := keepB hB13 HB1.out
          obtain ⟨c0, c1, f0, f1⟩ := box_facts2 hb13
          have HC := Lib.hid hC
          have HB13 := Lib.hid hB13
          have Hb13 := Lib.hid hb13
          clear hC hB12 hB13 hb13 hB hE hPo hE9
          refine wpAnyH_ready (rs := [13]) (by kernel_rfl) (by simp) ?_
          refine AllReadyH.cons rfl (fun K hK => ?_) AllReadyH.nil
          go_simp
          refine hK.out _ _ ((hHeld.setCell (.inl rfl) _).setCell (.inl rfl) _) (fun hHeld => ?_)
          clear hK K
          refine wpAnyH_take (i := 14) (oi := ⟨some 7, _, _, _, _, _⟩) (v := ?_) rfl (by kernel_rfl) (by kernel_rfl) (by kernel_rfl) (fun _ _ _ h => h) (Or.inl ⟨by rfl, ?_⟩) hHeld ?_
          rotate_left
          · intro w hSw
            go_simp
            try with_reducible rfl
          try simp only [Act.put, List.setIfInBounds_toArray, List.set_cons_zero, List.set_cons_succ]
          refine wpAnyH_done (by kernel_rfl) ?_ _
          go_wp2_with fail
          (try simp only [Exit.inBlock, Exit.then])
          refine bodyPost_ret (results_row_tmp rfl _ _ _ _ _ _ _ rfl (box2 Hb13.out _ _) Try.underlying57 rfl rfl) rfl ?_
          exact ⟨g', cap', _, rfl, HC.out.result Hb13.out (HK1.out.below.trans (HB13.out.mono HK1.out.below.size)) (by omega) _ _⟩
end Go.Proofs.Ytgcfiiidhihkaaa.C
