/- The reference's store: the walk of Cut; Push, Cut at whatever numbers. -/
import Derived.Test.YtgcfiiidhihkaaaRefU
namespace Go.Proofs.Ytgcfiiidhihkaaa.C
open Go.RowKit
set_option linter.unusedVariables false
section
variable {w : World} {base g cap m : Nat} {S : List Value} {L : List (List (Array Value))}
theorem pf_at (h : RS w base g cap S L) {c k : Int} : Pk ((atS L c k).getD PZ) := by
  rcases atS_cases L c k with ⟨c, k, l, x, rfl, rfl, hl, hx, he⟩ | ⟨he, hn⟩
  · rw [he]
    exact (h.pf l (List.mem_of_getElem? hl) x (List.mem_of_getElem? hx)).pk
  · rw [he]
    exact pk_zero
set_option maxRecDepth 100000 in
set_option maxHeartbeats 1000000 in
theorem rs_cut_no (c k : Int) (h : RS w base g cap S L) (hL : L.length ≤ 129) (hk : k ≤ 4611686018427387904) (hq : ∀ l ∈ L, l.length ≤ 4096) (hn : atS L c k = none) :
    Calls Try.prog 53 #[rv g cap L.length m, .int .i64 c, .int .i64 k] w fun e w' => e = .returned (rv g cap L.length m) ∧ Below w.heap.size w w' := by
  have CA := Lib.hid (fun w' (p : Below w.heap.size w w') => rs_at (m := m) c k (h.below p) hL hk hq)
  rw [hn] at CA
  clear h hn hq
  generalize L.length = n at *
  go_enter Try.func53, Try.ntmps53
  go_upto_region 1 with (first
    | ((with_reducible refine arm_box 3 0 89 #[.slice (some ⟨g, 0, none⟩) n cap, .int .i64 (m : Nat)] ?_ ?_); rfl; intro w0 HB0 HX0 HS0)
    | ((with_reducible refine arm_alloc 6 89 #[.slice none 0 0, .int .i64 0] 2 (by kernel_rfl) ?_); intro w1 HB1 HX1 HS1))
  have HB := Lib.hid (HB0.out.trans (HB1.out.mono HB0.out.size))
  have HX := Lib.hid (keep_block HB1.out HX0.out)
  have HLT := Lib.hid HB0.out.size
  obtain ⟨c0, c1, _, _⟩ := ref_facts HX.out
  clear HB0 HX0 HS0 HB1 HS1
  go_wp2_with fail
  refine (CA.out _ HB.out).mono ?_
  rintro e w2 ⟨rfl, hB2⟩
  have HX2 := Lib.hid (keep_block hB2 HX.out)
  have HY2 := Lib.hid (keep_block hB2 HX1.out)
  have HB2 := Lib.hid (HB.out.trans (hB2.mono HB.out.size))
  clear hB2 HX HX1 HB c0 c1 CA
  go_upto_region 2 with (first
    | ((with_reducible refine arm_alloc 7 79 PZ 46 pz_zero ?_); intro w3 HB3 HX3 HS3; have hst := pkt_store HX3.out pk_zero)
    | ((with_reducible refine arm_store 7 14 79 (.pointer (some ⟨w2.heap.size, 0, none⟩)) (.agg PZ) _ hst ?_ ?_ ?_); rfl; rfl))
  clear hst
  have hB4 := below_setCells (b := w2.heap.size) (Nat.le_refl _) PZ.toList 0 HB3.out
  obtain ⟨c0, c1, _, _⟩ := ref_facts (keep_block hB4 HX2.out)
  have HY4 := Lib.hid (keep_block hB4 HY2.out)
  have HB4 := Lib.hid (HB2.out.trans (hB4.mono HB2.out.size))
  obtain ⟨k0, k1, f0, f1⟩ := ref_facts HY4.out
  clear hB4 HX2 HY2 HB2 HB3 HX3 HS3
  generalize w3.setCells w2.heap.size 0 PZ.toList = w4 at *
  generalize w0.heap.size = b6 at *
  go_wp2_with fail
  (try simp only [Exit.inBlock, Exit.then])
  refine bodyPost_ret (results_cell_row rfl _ _ _ _ _ _ _ rfl (ref_box2 HY4.out _ _) Try.underlying89 rfl rfl) rfl ?_
  exact ⟨rfl, (HB4.out.setCell HLT.out _).setCell HLT.out _⟩
set_option maxRecDepth 100000 in
set_option maxHeartbeats 4000000 in
theorem rs_cut_yes (c k : Nat) (l : List (Array Value)) (x : Array Value) (h : RS w base g cap S L) (hL : L.length ≤ 129) (hq : ∀ l ∈ L, l.length ≤ 4096) (hl : L[c]? = some l) (hx : l[k]? = some x) :
    Calls Try.prog 53 #[rv g cap L.length m, .int .i64 (c : Nat), .int .i64 (k : Nat)] w fun e w' => ∃ g' cap' S', e = .returned (rv g' cap' L.length m) ∧ RS w' base g' cap' S' (L.set c (l.eraseIdx k)) ∧ Below w.heap.size w w' := by
  obtain ⟨i0, hi, hz0, hz1, hz2⟩ := info_parts pkt_info
  have Hi := Lib.hid hi
  have Hz0 := Lib.hid hz0
  have Hz1 := Lib.hid hz1
  have Hz2 := Lib.hid hz2
  have hcl := lt_of_some hl
  have hkl := lt_of_some hx
  have hl4 := hq l (List.mem_of_getElem? hl)
  have CA := Lib.hid (fun w' (p : Below w.heap.size w w') => rs_at (m := m) (c : Nat) (k : Nat) (h.below p) hL (by omega) hq)
  rw [atS_some hl, hx] at CA
  have hpl : ∀ y ∈ l, PF y := h.pf l (List.mem_of_getElem? hl)
  have hple : ∀ y ∈ l.eraseIdx k, PF y := fun y hy => hpl y (List.mem_of_mem_eraseIdx hy)
  have CWW := Lib.hid (fun v w' (hr : RS w' base g cap S L) (ho : w'.ownsRow base 79 46 v (l.eraseIdx k).length (cellsL (l.eraseIdx k))) => rs_with (m := m) c (l.eraseIdx k) v hr ho hple hcl hL)
  have HONE := Lib.hid (cellsL_oneCell hpl)
  have HCL := Lib.hid (cellsL_length hpl)
  have hpk := (hpl x (List.mem_of_getElem? hx)).pk
  have HPK := Lib.hid hpk
  have HH := Lib.hid h
  have HLL := Lib.hid hl
  have hgl := h.lt
  have hcat : (cellsL l).take (k * 46) ++ (cellsL l).drop ((k + 1) * 46) = cellsL (l.eraseIdx k) := by
    have h0 : ∀ (r : List (Array Value)), (∀ y ∈ r, PF y) → ∀ j, j ≤ r.length → (cellsL r).take (j * 46) = cellsL (r.take j) ∧ (cellsL r).drop (j * 46) = cellsL (r.drop j) := by
      intro r hr j hj
      have e : cellsL r = cellsL (r.take j) ++ cellsL (r.drop j) := by rw [← cellsL_append, List.take_append_drop]
      have hlen : (cellsL (r.take j)).length = j * 46 := by rw [cellsL_length fun y hy => hr y (List.mem_of_mem_take hy), List.length_take, Nat.min_eq_left hj]
      rw [e]
      exact ⟨List.take_left' hlen, List.drop_left' hlen⟩
    rw [(h0 l hpl k (by omega)).1, (h0 l hpl (k + 1) (by omega)).2, ← cellsL_append, List.eraseIdx_eq_take_drop_succ]
  have HCAT := Lib.hid hcat
  clear hi hz0 hz1 hz2 h hl hx hpl hple hq hpk hcat
  generalize hn : L.length = n at *
  have HN := Lib.hid hn
  clear hn
  have hcn : (c : Int) < (n : Int) := by omega
  go_enter Try.func53, Try.ntmps53
  go_upto_region 1 with (first
    | ((with_reducible refine arm_box 3 0 89 #[.slice (some ⟨g, 0, none⟩) n cap, .int .i64 (m : Nat)] ?_ ?_); rfl; intro w0 HB0 HX0 HS0)
    | ((with_reducible refine arm_alloc 6 89 #[.slice none 0 0, .int .i64 0] 2 (by kernel_rfl) ?_); intro w2 HB1 HX1 HS1))
  have HB := Lib.hid (HB0.out.trans (HB1.out.mono HB0.out.size))
  have HX := Lib.hid (keep_block HB1.out HX0.out)
  have HLT := Lib.hid HB0.out.size
  have HNE6 : Hid (w.heap.size ≠ w0.heap.size ∧ g ≠ w0.heap.size) := by
    have h1 := HS0.out
    exact Lib.hid ⟨by omega, by omega⟩
  obtain ⟨c0, c1, _, _⟩ := ref_facts HX.out
  clear HB0 HX0 HS0 HB1 HS1
  go_wp2_with fail
  refine (CA.out _ HB.out).mono ?_
  rintro e w3 ⟨rfl, hB2⟩
  have HX2 := Lib.hid (keep_block hB2 HX.out)
  have HY2 := Lib.hid (keep_block hB2 HX1.out)
  have HB2 := Lib.hid (HB.out.trans (hB2.mono HB.out.size))
  clear hB2 HX HX1 HB c0 c1 CA
  simp only [Option.getD_some, Option.isSome_some]
  go_upto_region 2 with (first
    | ((with_reducible refine arm_alloc 7 79 PZ 46 pz_zero ?_); intro w4 HB3 HX3 HS3; have hst := pkt_store HX3.out HPK.out)
    | ((with_reducible refine arm_store 7 14 79 (.pointer (some ⟨w3.heap.size, 0, none⟩)) (.agg x) _ hst ?_ ?_ ?_); rfl; rfl))
  clear hst
  have hB4 := below_setCells (b := w3.heap.size) (Nat.le_refl _) x.toList 0 HB3.out
  have HX4 := Lib.hid (keep_block hB4 HX2.out)
  have HB6 := Lib.hid (keep_block hB4 HY2.out)
  have HB1 := Lib.hid (HB2.out.trans (hB4.mono HB2.out.size))
  clear hB4 HX2 HY2 HB2 HB3 HX3 HS3
  generalize w4.setCells w3.heap.size 0 x.toList = w1 at *
  generalize w0.heap.size = b6 at *
  have HR := Lib.hid (HH.out.below HB1.out)
  obtain ⟨A, ca, hlc, hrow⟩ := HR.out.line HLL.out
  obtain ⟨gg, cp', hv, _, _⟩ := hrow.form (by omega)
  injection hv with hv1 hv2 hv3
  subst hv1 hv3
  have hqc := (OW.cap hrow).1
  have HROW := Lib.hid hrow
  have CW := Lib.hid (fun v w' (hb : Below w1.heap.size w1 w') ho => CWW.out v w' (HR.out.below hb) ho)
  have HF : Hid (∀ w', Two b6 b6 w1 w' → w'.cell? ⟨w.heap.size, 0, none⟩ = some (.slice (some ⟨g, 0, none⟩) n cap) ∧ w'.cell? ⟨w.heap.size, 1, none⟩ = some (.int .i64 (m : Nat)) ∧ w'.cell? ⟨g, c, none⟩ = some (.slice (some ⟨gg, 0, none⟩) l.length ca)) := by
    refine Lib.hid fun w' ht => ?_
    have hb0 := (ht.block _ (Array.getElem?_eq_some_iff.1 HX4.out).1 HNE6.out.1 HNE6.out.1).trans HX4.out
    obtain ⟨k0, k1, _, _⟩ := ref_facts hb0
    refine ⟨k0, k1, ?_⟩
    rw [World.cell?_of_block (ht.block g (World.block_lt_of_cell? w1 _ hlc) HNE6.out.2 HNE6.out.2)]
    exact hlc
  have hbs : base ≤ w1.heap.size := by have := HR.out.lt; omega
  generalize hql2 : l.length = ql at *
  have HQL := Lib.hid hql2
  clear hql2 hrow hlc
  have hy1 : (k : Int) ≤ (ca : Int) := by omega
  have hy2 : (k : Int) + 1 ≤ (ql : Int) := by omega
  have hy3 : (ql : Int) ≤ (ca : Int) := by omega
  have hy4 : (0 : Int) ≤ (k : Int) := by omega
  have hy5 : (0 : Int) ≤ (k : Int) + 1 := by omega
  have hy6 : (k : Int) ≤ (ql : Int) := by omega
  have hwk : IntKind.i64.wrap ((k : Int) + 1) = (k : Int) + 1 := IntWalk.i64_in _ (by omega)
  go_wp2_with fail
  refine wp_region_held_drew (S := Two b6 b6 w1) (by kernel_rfl) ((Two.refl _ _ _).next (Below.refl _ _).drew) (fun hHeld => ?_)
  refine wpAnyH_take (i := 0) (oi := ⟨some 19, _, _, _, _, _⟩) (v := ?_) rfl (by kernel_rfl) (by kernel_rfl) (by kernel_rfl) (fun _ _ _ h => h) (Or.inl ⟨by rfl, ?_⟩) hHeld ?_
  rotate_left
  · intro w hSw
    obtain ⟨k0, k1, k2⟩ := HF.out w hSw
    go_simp
    try with_reducible rfl
  try simp only [Act.put, List.setIfInBounds_toArray, List.set_cons_zero, List.set_cons_succ]
  refine wpAnyH_take (i := 1) (oi := ⟨some 20, _, _, _, _, _⟩) (v := ?_) rfl (by kernel_rfl) (by kernel_rfl) (by kernel_rfl) (fun _ _ _ h => h) (Or.inl ⟨by rfl, ?_⟩) hHeld ?_
  rotate_left
  · intro w hSw
    go_simp
    try with_reducible rfl
  try simp only [Act.put, List.setIfInBounds_toArray, List.set_cons_zero, List.set_cons_succ]
  refine wpAnyH_take (i := 3) (oi := ⟨some 22, _, _, _, _, _⟩) (v := ?_) rfl (by kernel_rfl) (by kernel_rfl) (by kernel_rfl) (fun _ _ _ h => h) (Or.inl ⟨by rfl, ?_⟩) hHeld ?_
  rotate_left
  · intro w hSw
    go_simp
    try with_reducible rfl
  try simp only [Act.put, List.setIfInBounds_toArray, List.set_cons_zero, List.set_cons_succ]
  refine wpAnyH_take (i := 4) (oi := ⟨some 23, _, _, _, _, _⟩) (v := ?_) rfl (by kernel_rfl) (by kernel_rfl) (by kernel_rfl) (fun _ _ _ h => h) (Or.inl ⟨by rfl, ?_⟩) hHeld ?_
  rotate_left
  · intro w hSw
    obtain ⟨k0, k1, k2⟩ := HF.out w hSw
    go_simp
    try with_reducible rfl
  try simp only [Act.put, List.setIfInBounds_toArray, List.set_cons_zero, List.set_cons_succ]
  refine wpAnyH_take (i := 5) (oi := ⟨some 24, _, _, _, _, _⟩) (v := ?_) rfl (by kernel_rfl) (by kernel_rfl) (by kernel_rfl) (fun _ _ _ h => h) (Or.inl ⟨by rfl, ?_⟩) hHeld ?_
  rotate_left
  · intro w hSw
    go_simp
    try with_reducible rfl
  try simp only [Act.put, List.setIfInBounds_toArray, List.set_cons_zero, List.set_cons_succ]
  refine wpAnyH_take (i := 6) (oi := ⟨some 25, _, _, _, _, _⟩) (v := ?_) rfl (by kernel_rfl) (by kernel_rfl) (by kernel_rfl) (fun _ _ _ h => h) (Or.inl ⟨by rfl, ?_⟩) hHeld ?_
  rotate_left
  · intro w hSw
    go_simp
    try with_reducible rfl
  try simp only [Act.put, List.setIfInBounds_toArray, List.set_cons_zero, List.set_cons_succ]
  refine wpAnyH_take (i := 7) (oi := ⟨some 26, _, _, _, _, _⟩) (v := ?_) rfl (by kernel_rfl) (by kernel_rfl) (by kernel_rfl) (fun _ _ _ h => h) (Or.inl ⟨by rfl, ?_⟩) hHeld ?_
  rotate_left
  · intro w hSw
    obtain ⟨k0, k1, k2⟩ := HF.out w hSw
    go_simp
    try with_reducible rfl
  try simp only [Act.put, List.setIfInBounds_toArray, List.set_cons_zero, List.set_cons_succ]
  refine wpAnyH_take (i := 8) (oi := ⟨some 27, _, _, _, _, _⟩) (v := ?_) rfl (by kernel_rfl) (by kernel_rfl) (by kernel_rfl) (fun _ _ _ h => h) (Or.inl ⟨by rfl, ?_⟩) hHeld ?_
  rotate_left
  · intro w hSw
    go_simp
    try with_reducible rfl
  try simp only [Act.put, List.setIfInBounds_toArray, List.set_cons_zero, List.set_cons_succ]
  refine wpAnyH_take (i := 9) (oi := ⟨some 28, _, _, _, _, _⟩) (v := ?_) rfl (by kernel_rfl) (by kernel_rfl) (by kernel_rfl) (fun _ _ _ h => h) (Or.inl ⟨by rfl, ?_⟩) hHeld ?_
  rotate_left
  · intro w hSw
    go_simp
    try with_reducible rfl
  try simp only [Act.put, List.setIfInBounds_toArray, List.set_cons_zero, List.set_cons_succ]
  refine wpAnyH_take (i := 11) (oi := ⟨some 30, _, _, _, _, _⟩) (v := ?_) rfl (by kernel_rfl) (by kernel_rfl) (by kernel_rfl) (fun _ _ _ h => h) (Or.inl ⟨by rfl, ?_⟩) hHeld ?_
  rotate_left
  · intro w hSw
    go_simp
    try with_reducible rfl
  try simp only [Act.put, List.setIfInBounds_toArray, List.set_cons_zero, List.set_cons_succ]
  refine wpAnyH_take (i := 12) (oi := ⟨some 31, _, _, _, _, _⟩) (v := ?_) rfl (by kernel_rfl) (by kernel_rfl) (by kernel_rfl) (fun _ _ _ h => h) (Or.inl ⟨by rfl, ?_⟩) hHeld ?_
  rotate_left
  · intro w hSw
    obtain ⟨k0, k1, k2⟩ := HF.out w hSw
    go_simp
    try with_reducible rfl
  try simp only [Act.put, List.setIfInBounds_toArray, List.set_cons_zero, List.set_cons_succ]
  refine wpAnyH_take (i := 13) (oi := ⟨some 32, _, _, _, _, _⟩) (v := ?_) rfl (by kernel_rfl) (by kernel_rfl) (by kernel_rfl) (fun _ _ _ h => h) (Or.inl ⟨by rfl, ?_⟩) hHeld ?_
  rotate_left
  · intro w hSw
    go_simp
    try with_reducible rfl
  try simp only [Act.put, List.setIfInBounds_toArray, List.set_cons_zero, List.set_cons_succ]
  refine wpAnyH_take (i := 14) (oi := ⟨some 33, _, _, _, _, _⟩) (v := ?_) rfl (by kernel_rfl) (by kernel_rfl) (by kernel_rfl) (fun _ _ _ h => h) (Or.inl ⟨by rfl, ?_⟩) hHeld ?_
  rotate_left
  · intro w hSw
    go_simp
    try with_reducible rfl
  try simp only [Act.put, List.setIfInBounds_toArray, List.set_cons_zero, List.set_cons_succ]
  refine wpAnyH_take (i := 15) (oi := ⟨some 34, _, _, _, _, _⟩) (v := ?_) rfl (by kernel_rfl) (by kernel_rfl) (by kernel_rfl) (fun _ _ _ h => h) (Or.inl ⟨by rfl, ?_⟩) hHeld ?_
  rotate_left
  · intro w hSw
    obtain ⟨k0, k1, k2⟩ := HF.out w hSw
    go_simp
    try with_reducible rfl
  try simp only [Act.put, List.setIfInBounds_toArray, List.set_cons_zero, List.set_cons_succ]
  refine wpAnyH_take (i := 16) (oi := ⟨some 35, _, _, _, _, _⟩) (v := ?_) rfl (by kernel_rfl) (by kernel_rfl) (by kernel_rfl) (fun _ _ _ h => h) (Or.inl ⟨by rfl, ?_⟩) hHeld ?_
  rotate_left
  · intro w hSw
    go_simp
    try with_reducible rfl
  try simp only [Act.put, List.setIfInBounds_toArray, List.set_cons_zero, List.set_cons_succ]
  refine wpAnyH_take (i := 17) (oi := ⟨some 36, _, _, _, _, _⟩) (v := ?_) rfl (by kernel_rfl) (by kernel_rfl) (by kernel_rfl) (fun _ _ _ h => h) (Or.inl ⟨by rfl, ?_⟩) hHeld ?_
  rotate_left
  · intro w hSw
    go_simp
    try with_reducible rfl
  try simp only [Act.put, List.setIfInBounds_toArray, List.set_cons_zero, List.set_cons_succ]
  refine wpAnyH_take (i := 18) (oi := ⟨some 37, _, _, _, _, _⟩) (v := ?_) rfl (by kernel_rfl) (by kernel_rfl) (by kernel_rfl) (fun _ _ _ h => h) (Or.inl ⟨by rfl, ?_⟩) hHeld ?_
  rotate_left
  · intro w hSw
    go_simp
    try with_reducible rfl
  try simp only [Act.put, List.setIfInBounds_toArray, List.set_cons_zero, List.set_cons_succ]
  refine wpAnyH_ready (rs := [2]) (by kernel_rfl) (by simp) ?_
  refine AllReadyH.cons rfl (fun K hK => ?_) AllReadyH.nil
  go_simp
  refine hK.out _ _ (hHeld.next ((Below.refl _ _).alloc (Nat.le_refl _) _)) (fun hHeld => ?_)
  clear hK K
  have hB : Below w1.heap.size w1 ((w1.alloc (.cells #[] 79)).drew) := ((Below.refl _ _).alloc (Nat.le_refl _) _).drew
  have hE : ((w1.alloc (.cells #[] 79)).drew).ownsRow base 79 46 (.slice (some ⟨w1.heap.size, 0, none⟩) 0 0) 0 [] := OW.empty (Go.heap_alloc_new w1 _) hbs
  have HOR : Hid (∀ (w' : World), Below w1.heap.size w1 w' → ∀ (j : Nat) (u : Value), (cellsL l)[j]? = some u → w'.cell? ((⟨gg, 0, none⟩ : Addr).add j) = some u) := Lib.hid fun w' hB j u hu => (OW.below HROW.out hB).cells (g := gg) rfl j u hu
  generalize (w1.alloc (.cells #[] 79)).drew = W1 at *
  refine wpAnyH_ready (rs := [10]) (by kernel_rfl) (by simp) ?_
  refine AllReadyH.cons (o := ⟨some 29, _, _, _, _, _⟩) rfl (fun K hK => ?_) AllReadyH.nil
  rw [if_pos (by rfl)]
  refine OW.wp_append _ (.tmp 21) (.tmp 28) 83 rfl base 79 i0 (.agg PZ) 46 64 Try.underlying83 Hi.out Hz0.out Hz1.out Hz2.out rfl (by omega) _ 0 [] (by rfl) hE ⟨gg, 0, none⟩ k ca ((cellsL l).take (k * 46)) (by rfl) ?hl ?hnews ?h1 ?h63 ?hbytes ?hbase ?next
  case hl =>
    rw [List.length_take, HCL.out]
    have := HQL.out
    omega
  case hnews =>
    intro j u hu
    rw [List.getElem?_take] at hu
    split at hu
    · exact HOR.out _ hB j u hu
    · cases hu
  case h1 => exact fun u hu => HONE.out u (List.mem_of_mem_take hu)
  case h63 => simp only [maxLen]; omega
  case hbytes => omega
  case hbase => exact Nat.le_trans hbs hB.size
  case next =>
    intro v6 W2 hE6 hg6 hat6
    have hB6 : Below w1.heap.size w1 W2 := hB.grown hg6 hB.size (fun q hq => by simp [Value.ownBlock] at hq; omega)
    have hge6 : ∀ q, v6.ownBlock = some q → w1.heap.size ≤ q := by
      intro q hq
      rcases hat6 with h | h
      · rw [h] at hq; simp [Value.ownBlock] at hq; omega
      · rw [h] at hq; simp at hq; have := hB.size; omega
    rw [Nat.zero_add, List.nil_append] at hE6
    clear hg6 hat6 hE
    refine hK.out _ _ (Two.ofB hB6) (fun hHeld => ?_)
    clear hK K
    try simp only [Act.put, List.setIfInBounds_toArray, List.set_cons_zero, List.set_cons_succ]
    refine wpAnyH_ready (rs := [19]) (by kernel_rfl) (by simp) ?_
    refine AllReadyH.cons (o := ⟨some 38, _, _, _, _, _⟩) rfl (fun K hK => ?_) AllReadyH.nil
    rw [if_pos (by rfl)]
    obtain ⟨A, hA, hA2⟩ : ∃ A : Addr, (if ca = k + 1 then some (⟨gg, 0, none⟩ : Addr) else some ⟨gg, (k + 1) * 46, none⟩) = some A ∧ (k + 1 < ql → A = ⟨gg, (k + 1) * 46, none⟩) := by
      by_cases e : ca = k + 1
      · exact ⟨_, by rw [if_pos e], fun h => by omega⟩
      · exact ⟨_, by rw [if_neg e], fun h => rfl⟩
    refine OW.wp_append _ (.tmp 29) (.tmp 37) 83 rfl base 79 i0 (.agg PZ) 46 64 Try.underlying83 Hi.out Hz0.out Hz1.out Hz2.out rfl (by omega) v6 k ((cellsL l).take (k * 46)) (by rfl) hE6 A (ql - (k + 1)) (ca - (k + 1)) ((cellsL l).drop ((k + 1) * 46)) (by simp [Act.eval]; exact hA) ?hl ?hnews ?h1 ?h63 ?hbytes ?hbase ?next
    case hl =>
      rw [List.length_drop, HCL.out]
      have := HQL.out
      omega
    case hnews =>
      intro j u hu
      rw [List.getElem?_drop] at hu
      have hj : (k + 1) * 46 + j < ql * 46 := by
        have := (List.getElem?_eq_some_iff.1 hu).1
        rw [HCL.out] at this
        exact this
      rw [hA2 (by omega)]
      have := HOR.out _ hB6 ((k + 1) * 46 + j) u hu
      rw [show (⟨gg, (k + 1) * 46, none⟩ : Addr).add j = (⟨gg, 0, none⟩ : Addr).add ((k + 1) * 46 + j) by rw [OW.addr_off, OW.addr_off, Nat.zero_add]]
      exact this
    case h1 => exact fun u hu => HONE.out u (List.mem_of_mem_drop hu)
    case h63 => simp only [maxLen]; omega
    case hbytes => omega
    case hbase => exact Nat.le_trans hbs hB6.size
    case next =>
      intro v9 W3 hE9 hg9 hat9
      have hB : Below w1.heap.size w1 W3 := hB6.grown hg9 hB6.size hge6
      have el : (l.eraseIdx k).length = k + (ql - (k + 1)) := by rw [List.length_eraseIdx_of_lt (by have := HQL.out; omega), HQL.out]; omega
      rw [HCAT.out, ← el] at hE9
      clear el hA2 hE6 hge6 hg9 hat9 hB6
      refine hK.out _ _ (Two.ofB hB) (fun hHeld => ?_)
      clear hK K
      try simp only [Act.put, List.setIfInBounds_toArray, List.set_cons_zero, List.set_cons_succ]
      simp only [hA]
      clear hA
      refine wpAnyH_ready (rs := [20]) (by kernel_rfl) (by simp) ?_
      refine AllReadyH.cons rfl (fun K hK => ?_) AllReadyH.nil
      go_simp
      go_wp2_with (go_at_call 67; go_must (refine (CW.out _ _ hB hE9).mono ?_; rintro e w12 ⟨g', cap', rfl, hC, hB12⟩))
      have hB13 := hB.trans (hB12.mono hB.size)
      refine hK.out _ _ (Two.ofB hB13) (fun hHeld => ?_)
      clear hK K
      have hb13 := keep_block hB13 HB6.out
      obtain ⟨c0, c1, f0, f1⟩ := ref_facts hb13
      have HC := Lib.hid hC
      have HB13 := Lib.hid hB13
      have Hb13 := Lib.hid hb13
      clear hC hB12 hB13 hb13 hB hE9
      refine wpAnyH_ready (rs := [21]) (by kernel_rfl) (by simp) ?_
      refine AllReadyH.cons rfl (fun K hK => ?_) AllReadyH.nil
      go_simp
      refine hK.out _ _ ((hHeld.setCell (.inl rfl) _).setCell (.inl rfl) _) (fun hHeld => ?_)
      clear hK K
      refine wpAnyH_done (by kernel_rfl) ?_ _
      go_wp2_with fail
      all_goals
        (try simp only [Exit.inBlock, Exit.then])
        refine bodyPost_ret (results_cell_row rfl _ _ _ _ _ _ _ rfl (ref_box2 Hb13.out _ _) Try.underlying89 rfl rfl) rfl ?_
        exact ⟨g', cap', _, rfl, HC.out.result Hb13.out (HB1.out.trans (HB13.out.mono HB1.out.size)) HLT.out _ _⟩
/-- Push at whatever numbers. -/
def okS (L : List (List (Array Value))) (R : Nat) (c n : Int) : Bool := decide (0 ≤ c ∧ c < L.length ∧ total L < R ∧ 1 ≤ n ∧ n ≤ 9216)
def pushS (L : List (List (Array Value))) (R : Nat) (c n : Int) (x : Array Value) : List (List (Array Value)) := if okS L R c n then L.set c.toNat (L.getD c.toNat [] ++ [x]) else L
theorem rs_push (c n : Int) (x : Array Value) (h : RS w base g cap S L) (hL : L.length ≤ 129) (hT : total L ≤ m) (hm : m ≤ 4096) (hf : Flat Try.prog 79 x) (hx : PkL x n) :
    Calls Try.prog 50 #[rv g cap L.length m, .int .i64 c, .agg x] w fun e w' => ∃ g' cap' S', e = .returned (.tuple #[rv g' cap' L.length m, .bool (okS L m c n)]) ∧ RS w' base g' cap' S' (pushS L m c n x) ∧ Below w.heap.size w w' := by
  by_cases ho : okS L m c n = true
  · unfold pushS
    rw [ho, if_pos rfl]
    unfold okS at ho
    rw [decide_eq_true_eq] at ho
    obtain ⟨h1, h2, h3, h4, h5⟩ := ho
    obtain ⟨c, rfl⟩ := Int.eq_ofNat_of_zero_le h1
    obtain ⟨l, hl⟩ : ∃ l, L[c]? = some l := ⟨_, List.getElem?_eq_getElem (by omega)⟩
    rw [Int.toNat_natCast, List.getD_eq_getElem?_getD, hl]
    exact rs_push_yes c l x h hL h3 hm hl ⟨hf, hx.pk, by rw [hx.lenP]; exact hx.len, by rw [hx.lenP]; exact ⟨h4, h5⟩⟩
  · have ho' : okS L m c n = false := by simpa using ho
    unfold pushS
    rw [ho', if_neg (by simp)]
    unfold okS at ho'
    rw [decide_eq_false_iff_not] at ho'
    exact (rs_push_no c n x h hL (by omega) hm hx (by omega)).mono fun e w' ⟨h1, h2⟩ => ⟨g, cap, S, h1, h.below h2, h2⟩
theorem rs_cut (c k : Int) (h : RS w base g cap S L) (hL : L.length ≤ 129) (hk : k ≤ 4611686018427387904) (hq : ∀ l ∈ L, l.length ≤ 4096) :
    Calls Try.prog 53 #[rv g cap L.length m, .int .i64 c, .int .i64 k] w fun e w' => ∃ g' cap' S', e = .returned (rv g' cap' L.length m) ∧ RS w' base g' cap' S' (cutS L c k) ∧ Below w.heap.size w w' := by
  unfold cutS
  rcases atS_cases L c k with ⟨c, k, l, x, rfl, rfl, hl, hx, he⟩ | ⟨he, hn⟩
  · rw [he, Option.isSome_some, if_pos rfl, Int.toNat_natCast, Int.toNat_natCast, List.getD_eq_getElem?_getD, hl]
    exact rs_cut_yes c k l x h hL hq hl hx
  · rw [he, Option.isSome_none, if_neg (by simp)]
    exact (rs_cut_no c k h hL hk hq he).mono fun e w' ⟨h1, h2⟩ => ⟨g, cap, S, h1, h.below h2, h2⟩
end
end Go.Proofs.Ytgcfiiidhihkaaa.C
