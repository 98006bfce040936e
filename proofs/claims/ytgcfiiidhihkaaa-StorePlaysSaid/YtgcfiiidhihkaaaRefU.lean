/- The reference's store: the walk of Push, done. -/
import Derived.Test.YtgcfiiidhihkaaaRefT
namespace Go.Proofs.Ytgcfiiidhihkaaa.C
open Go.RowKit
set_option linter.unusedVariables false
theorem pkt_info : (Try.prog.info? 79).map (fun i => (i.zero, i.size, i.bytes)) = some (some (.agg PZ), 46, 64) := by kernel_rfl
section
variable {w : World} {base g cap m : Nat} {S : List Value} {L : List (List (Array Value))}
set_option maxRecDepth 100000 in
set_option maxHeartbeats 4000000 in
theorem rs_push_yes (c : Nat) (l : List (Array Value)) (x : Array Value) (h : RS w base g cap S L) (hL : L.length ≤ 129) (hT : total L < m) (hm : m ≤ 4096) (hl : L[c]? = some l) (hx : PF x) :
    Calls Try.prog 50 #[rv g cap L.length m, .int .i64 (c : Nat), .agg x] w fun e w' => ∃ g' cap' S', e = .returned (.tuple #[rv g' cap' L.length m, .bool true]) ∧ RS w' base g' cap' S' (L.set c (l ++ [x])) ∧ Below w.heap.size w w' := by
  obtain ⟨i0, hi, hz0, hz1, hz2⟩ := info_parts pkt_info
  have Hi := Lib.hid hi
  have Hz0 := Lib.hid hz0
  have Hz1 := Lib.hid hz1
  have Hz2 := Lib.hid hz2
  have CWT := Lib.hid (fun w' (hr : RS w' base g cap S L) => rs_waits (m := m) hr hL (by omega))
  have hcl := lt_of_some hl
  have hql := total_le L l (List.mem_of_getElem? hl)
  have hpl : ∀ y ∈ l ++ [x], PF y := fun y hy => by
    rcases List.mem_append.1 hy with hy | hy
    · exact h.pf l (List.mem_of_getElem? hl) y hy
    · obtain rfl := List.mem_singleton.1 hy
      exact hx
  have CWW := Lib.hid (fun v w' (hr : RS w' base g cap S L) (ho : w'.ownsRow base 79 46 v (l ++ [x]).length (cellsL (l ++ [x]))) => rs_with (m := m) c (l ++ [x]) v hr ho hpl hcl hL)
  have HONE := Lib.hid (cellsL_oneCell (fun y hy => hpl y (by simp [hy]) : ∀ y ∈ l, PF y))
  have HXONE : Hid (∀ u ∈ x.toList, u.oneCell' = true) := Lib.hid fun u hu => Array.all_eq_true_iff_forall_mem.1 hx.pk.one u (by simpa using hu)
  have HH := Lib.hid h
  have HX45 := Lib.hid hx.len
  have HPX := Lib.hid hx
  have HLL := Lib.hid hl
  have hrng := hx.rng
  have hgl := h.lt
  generalize lenP x = len at *
  obtain ⟨r0, r1⟩ := hrng
  clear hi hz0 hz1 hz2 h hl hx hpl
  generalize hn : L.length = n at *
  have HN := Lib.hid hn
  generalize total L = t at *
  clear hn
  have d0_0 : decide ((c : Int) < 0) = false := decide_eq_false (by omega)
  have d1_0 : decide ((n : Int) ≤ (c : Int)) = false := decide_eq_false (by omega)
  have d1_1 : decide (n ≤ c) = false := decide_eq_false (by omega)
  have d2_0 : decide ((m : Int) ≤ (t : Int)) = false := decide_eq_false (by omega)
  have d2_1 : decide (m ≤ t) = false := decide_eq_false (by omega)
  have d3_0 : decide (len < 1) = false := decide_eq_false (by omega)
  have d4_0 : decide (9216 < len) = false := decide_eq_false (by omega)
  have hcn : (c : Int) < (n : Int) := by omega
  go_enter Try.func50, Try.ntmps50
  go_upto_region 1 with (first
    | ((with_reducible refine arm_box 3 0 89 #[.slice (some ⟨g, 0, none⟩) n cap, .int .i64 (m : Nat)] ?_ ?_); rfl; intro w0 HB0 HX0 HS0)
    | ((with_reducible refine arm_box 5 2 79 x ?_ ?_); rfl; intro w5 HB5 HX5 HS5)
    | ((with_reducible refine arm_alloc 6 89 #[.slice none 0 0, .int .i64 0] 2 (by kernel_rfl) ?_); intro w6 HB6 HX6 HS6))
  have hB := HB0.out.trans ((HB5.out.trans (HB6.out.mono HB5.out.size)).mono HB0.out.size)
  have hPG : PG w base g cap m S L n x len w.heap.size w0.heap.size w5.heap.size w6 := ⟨HH.out.below hB, keep_block HB6.out (keep_block HB5.out HX0.out), keep_block HB6.out HX5.out, HX6.out, HX45.out, hB⟩
  have hl6 : w.heap.size ≤ w5.heap.size := by have := HB0.out.size; have := HB5.out.size; omega
  have hne06 : w.heap.size ≠ w5.heap.size ∧ w0.heap.size ≠ w5.heap.size ∧ g ≠ w5.heap.size := by
    have h1 := HS0.out
    have h2 := HS5.out
    refine ⟨by omega, by omega, by omega⟩
  clear hB HB0 HX0 HS0 HB5 HX5 HS5 HB6 HX6 HS6
  generalize w0.heap.size = b5 at *
  generalize w5.heap.size = b6 at *
  have HLT6 := Lib.hid hl6
  have HNE6 := Lib.hid hne06
  clear hl6 hne06
  have CWA := Lib.hid (fun w' (hp : PG w base g cap m S L n x len w.heap.size b5 b6 w') => (CWT.out w' hp.row).mono fun e w'' h2 => (show e = _ ∧ PG w base g cap m S L n x len w.heap.size b5 b6 w'' from ⟨h2.1, hp.next h2.2⟩))
  refine wp_region_cls (PG w base g cap m S L n x len w.heap.size b5 b6) (by kernel_rfl) (by kernel_rfl) (hPG.next (Below.refl _ _).drew) ?_
  refine wq_step (fun K hK => ?_)
  rw [if_pos (by rfl)]
  refine ⟨?_, fun w hSw => ?_, hK _ ?_⟩
  rotate_left
  · clear hSw
    go_simp
    try with_reducible rfl
  clear hK K
  try simp only [Act.put, List.setIfInBounds_toArray, List.set_cons_zero, List.set_cons_succ]
  refine wq_step (fun K hK => ?_)
  rw [if_pos (by rfl)]
  refine ⟨?_, fun w hSw => ?_, hK _ ?_⟩
  rotate_left
  · clear hSw
    go_simp
    try with_reducible rfl
  clear hK K
  try simp only [Act.put, List.setIfInBounds_toArray, List.set_cons_zero, List.set_cons_succ]
  refine wq_step (fun K hK => ?_)
  rw [if_pos (by rfl)]
  refine ⟨?_, fun w hSw => ?_, hK _ ?_⟩
  rotate_left
  · clear hSw
    go_simp
    try with_reducible rfl
  clear hK K
  try simp only [Act.put, List.setIfInBounds_toArray, List.set_cons_zero, List.set_cons_succ]
  refine wq_step (fun K hK => ?_)
  rw [if_pos (by rfl)]
  refine ⟨?_, fun w hSw => ?_, hK _ ?_⟩
  rotate_left
  · clear hSw
    go_simp
    try with_reducible rfl
  clear hK K
  try simp only [Act.put, List.setIfInBounds_toArray, List.set_cons_zero, List.set_cons_succ]
  refine wq_step (fun K hK => ?_)
  rw [if_pos (by rfl)]
  refine ⟨?_, fun w hSw => ?_, hK _ ?_⟩
  rotate_left
  · clear hSw
    go_simp
    try with_reducible rfl
  clear hK K
  try simp only [Act.put, List.setIfInBounds_toArray, List.set_cons_zero, List.set_cons_succ]
  refine wq_step (fun K hK => ?_)
  rw [if_pos (by rfl)]
  refine ⟨?_, fun w hSw => ?_, hK _ ?_⟩
  rotate_left
  · obtain ⟨c0, c1, x45⟩ := hSw.facts
    go_simp
    try with_reducible rfl
  clear hK K
  try simp only [Act.put, List.setIfInBounds_toArray, List.set_cons_zero, List.set_cons_succ]
  refine wq_step (fun K hK => ?_)
  rw [if_pos (by rfl)]
  refine ⟨?_, fun w hSw => ?_, hK _ ?_⟩
  rotate_left
  · clear hSw
    go_simp
    try with_reducible rfl
  clear hK K
  try simp only [Act.put, List.setIfInBounds_toArray, List.set_cons_zero, List.set_cons_succ]
  refine wq_step (fun K hK => ?_)
  rw [if_pos (by rfl)]
  refine ⟨?_, fun w hSw => ?_, hK _ ?_⟩
  rotate_left
  · clear hSw
    go_simp
    try with_reducible rfl
  clear hK K
  try simp only [Act.put, List.setIfInBounds_toArray, List.set_cons_zero, List.set_cons_succ]
  refine wq_step (fun K hK => ?_)
  rw [if_pos (by rfl)]
  refine ⟨?_, fun w hSw => ?_, hK _ ?_⟩
  rotate_left
  · clear hSw
    go_simp
    try with_reducible rfl
  clear hK K
  try simp only [Act.put, List.setIfInBounds_toArray, List.set_cons_zero, List.set_cons_succ]
  refine wq_step (fun K hK => ?_)
  rw [if_pos (by rfl)]
  refine ⟨?_, fun w hSw => ?_, hK _ ?_⟩
  rotate_left
  · clear hSw
    go_simp
    try with_reducible rfl
  clear hK K
  try simp only [Act.put, List.setIfInBounds_toArray, List.set_cons_zero, List.set_cons_succ]
  refine wq_step (fun K hK => ?_)
  rw [if_pos (by rfl)]
  refine ⟨?_, fun w hSw => ?_, hK _ ?_⟩
  rotate_left
  · obtain ⟨c0, c1, x45⟩ := hSw.facts
    go_simp
    try with_reducible rfl
  clear hK K
  try simp only [Act.put, List.setIfInBounds_toArray, List.set_cons_zero, List.set_cons_succ]
  refine wq_step (fun K hK => ?_)
  rw [if_pos (by rfl)]
  refine ⟨?_, fun w hSw => ?_, hK _ ?_⟩
  rotate_left
  · go_simp
    go_at_call 54
    with_reducible exact CWA.out w hSw
  clear hK K
  try simp only [Act.put, List.setIfInBounds_toArray, List.set_cons_zero, List.set_cons_succ]
  refine wq_step (fun K hK => ?_)
  rw [if_pos (by rfl)]
  refine ⟨?_, fun w hSw => ?_, hK _ ?_⟩
  rotate_left
  · clear hSw
    go_simp
    try with_reducible rfl
  clear hK K
  try simp only [Act.put, List.setIfInBounds_toArray, List.set_cons_zero, List.set_cons_succ]
  refine wq_step (fun K hK => ?_)
  rw [if_pos (by rfl)]
  refine ⟨?_, fun w hSw => ?_, hK _ ?_⟩
  rotate_left
  · obtain ⟨c0, c1, x45⟩ := hSw.facts
    go_simp
    try with_reducible rfl
  clear hK K
  try simp only [Act.put, List.setIfInBounds_toArray, List.set_cons_zero, List.set_cons_succ]
  refine wq_step (fun K hK => ?_)
  rw [if_pos (by rfl)]
  refine ⟨?_, fun w hSw => ?_, hK _ ?_⟩
  rotate_left
  · clear hSw
    go_simp
    try with_reducible rfl
  clear hK K
  try simp only [Act.put, List.setIfInBounds_toArray, List.set_cons_zero, List.set_cons_succ]
  refine wq_step (fun K hK => ?_)
  rw [if_pos (by rfl)]
  refine ⟨?_, fun w hSw => ?_, hK _ ?_⟩
  rotate_left
  · clear hSw
    go_simp
    try with_reducible rfl
  clear hK K
  try simp only [Act.put, List.setIfInBounds_toArray, List.set_cons_zero, List.set_cons_succ]
  refine wq_step (fun K hK => ?_)
  rw [if_pos (by rfl)]
  refine ⟨?_, fun w hSw => ?_, hK _ ?_⟩
  rotate_left
  · clear hSw
    go_simp
    try with_reducible rfl
  clear hK K
  try simp only [Act.put, List.setIfInBounds_toArray, List.set_cons_zero, List.set_cons_succ]
  refine wq_step (fun K hK => ?_)
  rw [if_pos (by rfl)]
  refine ⟨?_, fun w hSw => ?_, hK _ ?_⟩
  rotate_left
  · clear hSw
    go_simp
    try with_reducible rfl
  clear hK K
  try simp only [Act.put, List.setIfInBounds_toArray, List.set_cons_zero, List.set_cons_succ]
  refine wq_step (fun K hK => ?_)
  rw [if_pos (by rfl)]
  refine ⟨?_, fun w hSw => ?_, hK _ ?_⟩
  rotate_left
  · obtain ⟨c0, c1, x45⟩ := hSw.facts
    go_simp
    try with_reducible rfl
  clear hK K
  try simp only [Act.put, List.setIfInBounds_toArray, List.set_cons_zero, List.set_cons_succ]
  refine wq_step (fun K hK => ?_)
  rw [if_pos (by rfl)]
  refine ⟨?_, fun w hSw => ?_, hK _ ?_⟩
  rotate_left
  · clear hSw
    go_simp
    try with_reducible rfl
  clear hK K
  try simp only [Act.put, List.setIfInBounds_toArray, List.set_cons_zero, List.set_cons_succ]
  refine wq_step (fun K hK => ?_)
  rw [if_pos (by rfl)]
  refine ⟨?_, fun w hSw => ?_, hK _ ?_⟩
  rotate_left
  · clear hSw
    go_simp
    try with_reducible rfl
  clear hK K
  try simp only [Act.put, List.setIfInBounds_toArray, List.set_cons_zero, List.set_cons_succ]
  refine wq_step (fun K hK => ?_)
  rw [if_pos (by rfl)]
  refine ⟨?_, fun w hSw => ?_, hK _ ?_⟩
  rotate_left
  · clear hSw
    go_simp
    try with_reducible rfl
  clear hK K
  try simp only [Act.put, List.setIfInBounds_toArray, List.set_cons_zero, List.set_cons_succ]
  refine wq_step (fun K hK => ?_)
  rw [if_pos (by rfl)]
  refine ⟨?_, fun w hSw => ?_, hK _ ?_⟩
  rotate_left
  · clear hSw
    go_simp
    try with_reducible rfl
  clear hK K
  try simp only [Act.put, List.setIfInBounds_toArray, List.set_cons_zero, List.set_cons_succ]
  refine wq_step (fun K hK => ?_)
  rw [if_pos (by rfl)]
  refine ⟨?_, fun w hSw => ?_, hK _ ?_⟩
  rotate_left
  · obtain ⟨c0, c1, x45⟩ := hSw.facts
    go_simp
    try with_reducible rfl
  clear hK K
  try simp only [Act.put, List.setIfInBounds_toArray, List.set_cons_zero, List.set_cons_succ]
  refine wq_step (fun K hK => ?_)
  rw [if_pos (by rfl)]
  refine ⟨?_, fun w hSw => ?_, hK _ ?_⟩
  rotate_left
  · clear hSw
    go_simp
    try with_reducible rfl
  clear hK K
  try simp only [Act.put, List.setIfInBounds_toArray, List.set_cons_zero, List.set_cons_succ]
  refine wq_step (fun K hK => ?_)
  rw [if_pos (by rfl)]
  refine ⟨?_, fun w hSw => ?_, hK _ ?_⟩
  rotate_left
  · clear hSw
    go_simp
    try with_reducible rfl
  clear hK K
  try simp only [Act.put, List.setIfInBounds_toArray, List.set_cons_zero, List.set_cons_succ]
  refine wq_nil ?_
  intro w9 hHeld
  clear hPG CWA CWT d0_0 d1_0 d1_1 d2_0 d2_1
  have HP := Lib.hid hHeld
  clear hHeld
  obtain ⟨A, c0, hlc, hrow⟩ := HP.out.row.line HLL.out
  obtain ⟨w1, rfl⟩ : ∃ w1 : World, w1 = w9 := ⟨_, rfl⟩
  have HB1 := Lib.hid HP.out.below
  have HB6 := Lib.hid HP.out.box6
  have HROW := Lib.hid hrow
  have CW := Lib.hid (fun v w' (hb : Below w1.heap.size w1 w') ho => CWW.out v w' (HP.out.row.below hb) ho)
  have HF : Hid (∀ w', Two b6 b6 w1 w' → w'.cell? ⟨w.heap.size, 0, none⟩ = some (.slice (some ⟨g, 0, none⟩) n cap) ∧ w'.cell? ⟨w.heap.size, 1, none⟩ = some (.int .i64 (m : Nat)) ∧ w'.cell? ⟨g, c, none⟩ = some (.slice A l.length c0) ∧ w'.heap[b5]? = some (.cells x 79 (0, 0))) := by
    refine Lib.hid fun w' ht => ?_
    have hb0 := (ht.block _ (Array.getElem?_eq_some_iff.1 HP.out.box0).1 HNE6.out.1 HNE6.out.1).trans HP.out.box0
    obtain ⟨k0, k1, _, _⟩ := ref_facts hb0
    refine ⟨k0, k1, ?_, (ht.block _ (Array.getElem?_eq_some_iff.1 HP.out.box5).1 HNE6.out.2.1 HNE6.out.2.1).trans HP.out.box5⟩
    rw [World.cell?_of_block (ht.block g (World.block_lt_of_cell? w1 _ hlc) HNE6.out.2.2 HNE6.out.2.2)]
    exact hlc
  have hbs : base ≤ w1.heap.size := by have := HP.out.row.lt; omega
  generalize hql2 : l.length = ql at *
  have HQL := Lib.hid hql2
  clear hql2 hrow hlc
  go_wp2_with fail
  refine wp_region_held_drew (S := Two b6 b6 w1) (by kernel_rfl) ((Two.refl _ _ _).next (Below.refl _ _).drew) (fun hHeld => ?_)
  refine wpAnyH_take (i := 0) (oi := ⟨some 35, _, _, _, _, _⟩) (v := ?_) rfl (by kernel_rfl) (by kernel_rfl) (by kernel_rfl) (fun _ _ _ h => h) (Or.inl ⟨by rfl, ?_⟩) hHeld ?_
  rotate_left
  · intro w hSw
    obtain ⟨k0, k1, k2, k3⟩ := HF.out w hSw
    go_simp
    try with_reducible rfl
  try simp only [Act.put, List.setIfInBounds_toArray, List.set_cons_zero, List.set_cons_succ]
  refine wpAnyH_take (i := 1) (oi := ⟨some 36, _, _, _, _, _⟩) (v := ?_) rfl (by kernel_rfl) (by kernel_rfl) (by kernel_rfl) (fun _ _ _ h => h) (Or.inl ⟨by rfl, ?_⟩) hHeld ?_
  rotate_left
  · intro w hSw
    go_simp
    try with_reducible rfl
  try simp only [Act.put, List.setIfInBounds_toArray, List.set_cons_zero, List.set_cons_succ]
  refine wpAnyH_take (i := 3) (oi := ⟨some 38, _, _, _, _, _⟩) (v := ?_) rfl (by kernel_rfl) (by kernel_rfl) (by kernel_rfl) (fun _ _ _ h => h) (Or.inl ⟨by rfl, ?_⟩) hHeld ?_
  rotate_left
  · intro w hSw
    go_simp
    try with_reducible rfl
  try simp only [Act.put, List.setIfInBounds_toArray, List.set_cons_zero, List.set_cons_succ]
  refine wpAnyH_take (i := 4) (oi := ⟨some 39, _, _, _, _, _⟩) (v := ?_) rfl (by kernel_rfl) (by kernel_rfl) (by kernel_rfl) (fun _ _ _ h => h) (Or.inl ⟨by rfl, ?_⟩) hHeld ?_
  rotate_left
  · intro w hSw
    obtain ⟨k0, k1, k2, k3⟩ := HF.out w hSw
    go_simp
    try with_reducible rfl
  try simp only [Act.put, List.setIfInBounds_toArray, List.set_cons_zero, List.set_cons_succ]
  refine wpAnyH_take (i := 5) (oi := ⟨some 40, _, _, _, _, _⟩) (v := ?_) rfl (by kernel_rfl) (by kernel_rfl) (by kernel_rfl) (fun _ _ _ h => h) (Or.inl ⟨by rfl, ?_⟩) hHeld ?_
  rotate_left
  · intro w hSw
    go_simp
    try with_reducible rfl
  try simp only [Act.put, List.setIfInBounds_toArray, List.set_cons_zero, List.set_cons_succ]
  refine wpAnyH_take (i := 6) (oi := ⟨some 41, _, _, _, _, _⟩) (v := ?_) rfl (by kernel_rfl) (by kernel_rfl) (by kernel_rfl) (fun _ _ _ h => h) (Or.inl ⟨by rfl, ?_⟩) hHeld ?_
  rotate_left
  · intro w hSw
    go_simp
    try with_reducible rfl
  try simp only [Act.put, List.setIfInBounds_toArray, List.set_cons_zero, List.set_cons_succ]
  refine wpAnyH_take (i := 7) (oi := ⟨some 42, _, _, _, _, _⟩) (v := ?_) rfl (by kernel_rfl) (by kernel_rfl) (by kernel_rfl) (fun _ _ _ h => h) (Or.inl ⟨by rfl, ?_⟩) hHeld ?_
  rotate_left
  · intro w hSw
    obtain ⟨k0, k1, k2, k3⟩ := HF.out w hSw
    go_simp
    try with_reducible rfl
  try simp only [Act.put, List.setIfInBounds_toArray, List.set_cons_zero, List.set_cons_succ]
  refine wpAnyH_take (i := 9) (oi := ⟨some 44, _, _, _, _, _⟩) (v := (.agg x)) rfl (by kernel_rfl) (by kernel_rfl) (by kernel_rfl) (fun _ _ _ h => h) (Or.inl ⟨by rfl, fun w hSw => exec_load rfl (pkt_load (HF.out w hSw).2.2.2 HPX.out.pk)⟩) hHeld ?_
  try simp only [Act.put, List.setIfInBounds_toArray, List.set_cons_zero, List.set_cons_succ]
  have hB : Below w1.heap.size w1 w1.drew := (Below.refl _ _).drew
  generalize w1.drew = W0 at *
  have hB0 := hB
  refine wpAnyH_ready (rs := [2, 10]) (by kernel_rfl) (by simp) ?_
  refine AllReadyH.cons (o := ⟨some 37, _, _, _, _, _⟩) rfl (fun K hK => ?_) (AllReadyH.cons (o := ⟨some 45, _, _, _, _, _⟩) rfl (fun K hK => ?_) AllReadyH.nil)
  · go_simp
    refine hK.out _ _ (hHeld.next ((Below.refl _ _).alloc (Nat.le_refl _) _)) (fun hHeld => ?_)
    clear hK K
    have hB : Below w1.heap.size w1 (W0.alloc (.cells #[] 79)) := hB.alloc hB.size _
    have hE : (W0.alloc (.cells #[] 79)).ownsRow base 79 46 (.slice (some ⟨W0.heap.size, 0, none⟩) 0 0) 0 [] := OW.empty (Go.heap_alloc_new W0 _) (Nat.le_trans hbs hB0.size)
    have hge : w1.heap.size ≤ W0.heap.size := hB0.size
    try simp only [Act.put, List.setIfInBounds_toArray, List.set_cons_zero, List.set_cons_succ]
    generalize W0.alloc (.cells #[] 79) = W1 at *
    have hB0 := hB
    refine wpAnyH_ready (rs := [8, 10]) (by kernel_rfl) (by simp) ?_
    refine AllReadyH.cons (o := ⟨some 43, _, _, _, _, _⟩) rfl (fun K hK => ?_) (AllReadyH.cons (o := ⟨some 45, _, _, _, _, _⟩) rfl (fun K hK => ?_) AllReadyH.nil)
    · rw [if_pos (by rfl)]
      refine OW.wp_append_row _ (.tmp 37) (.tmp 42) 83 rfl base 79 i0 (.agg PZ) 46 64 Try.underlying83 Hi.out Hz0.out Hz1.out Hz2.out rfl (by omega) _ 0 [] (by rfl) hE (.slice A ql c0) base ql (cellsL l) (by rfl) (OW.below HROW.out hB) HONE.out (by simp only [maxLen]; omega) (by omega) (Nat.le_trans hbs hB.size) ?_
      intro v6 W2 hE6 hg6 hat6
      have hB : Below w1.heap.size w1 W2 := hB.grown hg6 hB.size (fun q hq => by simp [Value.ownBlock] at hq; omega)
      have hge6 : ∀ q, v6.ownBlock = some q → w1.heap.size ≤ q := by
        intro q hq
        rcases hat6 with h | h
        · rw [h] at hq; simp [Value.ownBlock] at hq; omega
        · rw [h] at hq; simp at hq; have := hB0.size; omega
      rw [Nat.zero_add, List.nil_append] at hE6
      obtain ⟨A6, c6, rfl⟩ := OW.slice hE6
      have hE := hE6
      clear hE6 hg6 hat6
      refine hK.out _ _ (Two.ofB hB) (fun hHeld => ?_)
      clear hK K
      try simp only [Act.put, List.setIfInBounds_toArray, List.set_cons_zero, List.set_cons_succ]
      have hB0 := hB
      refine wpAnyH_ready (rs := [10]) (by kernel_rfl) (by simp) ?_
      refine AllReadyH.cons (o := ⟨some 45, _, _, _, _, _⟩) rfl (fun K hK => ?_) AllReadyH.nil
      · rw [if_pos (by rfl)]
        refine OW.wp_slice_one (s := 44) (cs := x) (n := 46) rfl (by rfl) Try.underlying83 pkt_size ⟨.agg PZ, by rw [Hi.out]; simp [Hz0.out]⟩ (by omega) (by omega) HPX.out.pk.size ?_
        refine hK.out _ _ (hHeld.next ((Below.refl _ _).alloc (Nat.le_refl _) _)) (fun hHeld => ?_)
        clear hK K
        have hB : Below w1.heap.size w1 (W2.alloc (.cells x 79)) := hB.alloc hB.size _
        have hPo : (W2.alloc (.cells x 79)).ownsRow base 79 46 (.slice (some ⟨W2.heap.size, 0, none⟩) 1 1) 1 x.toList := World.ownsRow_lit W2 x 1 (Nat.le_trans hbs hB0.size) (by simp [maxLen]) (by have := HPX.out.pk.size; omega)
        have hE := hE.alloc (.cells x 79)
        have hge : w1.heap.size ≤ W2.heap.size := hB0.size
        try simp only [Act.put, List.setIfInBounds_toArray, List.set_cons_zero, List.set_cons_succ]
        generalize W2.alloc (.cells x 79) = W3 at *
        have hB0 := hB
        refine wpAnyH_ready (rs := [11]) (by kernel_rfl) (by simp) ?_
        refine AllReadyH.cons (o := ⟨some 46, _, _, _, _, _⟩) rfl (fun K hK => ?_) AllReadyH.nil
        · rw [if_pos (by rfl)]
          refine OW.wp_append_row _ (.tmp 43) (.tmp 45) 83 rfl base 79 i0 (.agg PZ) 46 64 Try.underlying83 Hi.out Hz0.out Hz1.out Hz2.out rfl (by omega) _ ql (cellsL l) (by rfl) hE _ base 1 x.toList (by rfl) hPo HXONE.out (by simp only [maxLen]; omega) (by omega) (Nat.le_trans hbs hB.size) ?_
          intro v9 W4 hE9 hg9 hat9
          have hB : Below w1.heap.size w1 W4 := hB.grown hg9 hB.size hge6
          rw [show cellsL l ++ x.toList = cellsL (l ++ [x]) by rw [cellsL_append, cellsL_one], show ql + 1 = (l ++ [x]).length by rw [List.length_append, HQL.out]; rfl] at hE9
          refine hK.out _ _ (Two.ofB hB) (fun hHeld => ?_)
          clear hK K hg9 hat9
          try simp only [Act.put, List.setIfInBounds_toArray, List.set_cons_zero, List.set_cons_succ]
          refine wpAnyH_ready (rs := [12]) (by kernel_rfl) (by simp) ?_
          refine AllReadyH.cons rfl (fun K hK => ?_) AllReadyH.nil
          go_simp
          go_wp2_with (go_at_call 67; go_must (refine (CW.out _ _ hB hE9).mono ?_; rintro e w12 ⟨g', cap', rfl, hC, hB12⟩))
          have hB13 := hB.trans (hB12.mono hB.size)
          refine hK.out _ _ (Two.ofB hB13) (fun hHeld => ?_)
          clear hK K
          have hb13 := keep_block hB13 HB6.out
          obtain ⟨k0, k1, f0, f1⟩ := ref_facts hb13
          have HC := Lib.hid hC
          have HB13 := Lib.hid hB13
          have Hb13 := Lib.hid hb13
          clear hC hB12 hB13 hb13 hB hE hPo hE9
          refine wpAnyH_ready (rs := [13]) (by kernel_rfl) (by simp) ?_
          refine AllReadyH.cons rfl (fun K hK => ?_) AllReadyH.nil
          go_simp
          refine hK.out _ _ ((hHeld.setCell (.inl rfl) _).setCell (.inl rfl) _) (fun hHeld => ?_)
          clear hK K
          refine wpAnyH_take (i := 14) (oi := ⟨some 7, _, _, _, _, _⟩) (v := ?_) rfl (by kernel_rfl) (by kernel_rfl) (by kernel_rfl) (fun _ _ _ h => h) (Or.inl ⟨by rfl, ?_⟩) hHeld ?_
          rotate_left
          · intro w hSw
            go_simp
            try with_reducible rfl
          try simp only [Act.put, List.setIfInBounds_toArray, List.set_cons_zero, List.set_cons_succ]
          refine wpAnyH_done (by kernel_rfl) ?_ _
          go_wp2_with fail
          (try simp only [Exit.inBlock, Exit.then])
          refine bodyPost_ret (res_row_tmp rfl _ _ _ _ _ _ _ rfl (ref_box2 Hb13.out _ _) Try.underlying89 rfl rfl) rfl ?_
          exact ⟨g', cap', _, rfl, HC.out.result Hb13.out (HB1.out.trans (HB13.out.mono HB1.out.size)) HLT6.out _ _⟩
    · rw [if_pos (by rfl)]
      refine OW.wp_slice_one (s := 44) (cs := x) (n := 46) rfl (by rfl) Try.underlying83 pkt_size ⟨.agg PZ, by rw [Hi.out]; simp [Hz0.out]⟩ (by omega) (by omega) HPX.out.pk.size ?_
      refine hK.out _ _ (hHeld.next ((Below.refl _ _).alloc (Nat.le_refl _) _)) (fun hHeld => ?_)
      clear hK K
      have hB : Below w1.heap.size w1 (W1.alloc (.cells x 79)) := hB.alloc hB.size _
      have hPo : (W1.alloc (.cells x 79)).ownsRow base 79 46 (.slice (some ⟨W1.heap.size, 0, none⟩) 1 1) 1 x.toList := World.ownsRow_lit W1 x 1 (Nat.le_trans hbs hB0.size) (by simp [maxLen]) (by have := HPX.out.pk.size; omega)
      have hne : W0.heap.size < W1.heap.size := (World.ownsRow.lt hE _ rfl).2
      have hE := hE.alloc (.cells x 79)
      have hge : w1.heap.size ≤ W1.heap.size := hB0.size
      try simp only [Act.put, List.setIfInBounds_toArray, List.set_cons_zero, List.set_cons_succ]
      generalize W1.alloc (.cells x 79) = W2 at *
      have hB0 := hB
      refine wpAnyH_ready (rs := [8]) (by kernel_rfl) (by simp) ?_
      refine AllReadyH.cons (o := ⟨some 43, _, _, _, _, _⟩) rfl (fun K hK => ?_) AllReadyH.nil
      · rw [if_pos (by rfl)]
        refine OW.wp_append_row _ (.tmp 37) (.tmp 42) 83 rfl base 79 i0 (.agg PZ) 46 64 Try.underlying83 Hi.out Hz0.out Hz1.out Hz2.out rfl (by omega) _ 0 [] (by rfl) hE (.slice A ql c0) base ql (cellsL l) (by rfl) (OW.below HROW.out hB) HONE.out (by simp only [maxLen]; omega) (by omega) (Nat.le_trans hbs hB.size) ?_
        intro v6 W3 hE6 hg6 hat6
        have hB : Below w1.heap.size w1 W3 := hB.grown hg6 hB.size (fun q hq => by simp [Value.ownBlock] at hq; omega)
        have hge6 : ∀ q, v6.ownBlock = some q → w1.heap.size ≤ q := by
          intro q hq
          rcases hat6 with h | h
          · rw [h] at hq; simp [Value.ownBlock] at hq; omega
          · rw [h] at hq; simp at hq; have := hB0.size; omega
        have hPo := hPo.kept hg6 (.inr (by simp [Value.ownBlock]; omega))
        rw [Nat.zero_add, List.nil_append] at hE6
        obtain ⟨A6, c6, rfl⟩ := OW.slice hE6
        have hE := hE6
        clear hE6 hg6 hat6
        refine hK.out _ _ (Two.ofB hB) (fun hHeld => ?_)
        clear hK K
        try simp only [Act.put, List.setIfInBounds_toArray, List.set_cons_zero, List.set_cons_succ]
        have hB0 := hB
        refine wpAnyH_ready (rs := [11]) (by kernel_rfl) (by simp) ?_
        refine AllReadyH.cons (o := ⟨some 46, _, _, _, _, _⟩) rfl (fun K hK => ?_) AllReadyH.nil
        · rw [if_pos (by rfl)]
          refine OW.wp_append_row _ (.tmp 43) (.tmp 45) 83 rfl base 79 i0 (.agg PZ) 46 64 Try.underlying83 Hi.out Hz0.out Hz1.out Hz2.out rfl (by omega) _ ql (cellsL l) (by rfl) hE _ base 1 x.toList (by rfl) hPo HXONE.out (by simp only [maxLen]; omega) (by omega) (Nat.le_trans hbs hB.size) ?_
          intro v9 W4 hE9 hg9 hat9
          have hB : Below w1.heap.size w1 W4 := hB.grown hg9 hB.size hge6
          rw [show cellsL l ++ x.toList = cellsL (l ++ [x]) by rw [cellsL_append, cellsL_one], show ql + 1 = (l ++ [x]).length by rw [List.length_append, HQL.out]; rfl] at hE9
          refine hK.out _ _ (Two.ofB hB) (fun hHeld => ?_)
          clear hK K hg9 hat9
          try simp only [Act.put, List.setIfInBounds_toArray, List.set_cons_zero, List.set_cons_succ]
          refine wpAnyH_ready (rs := [12]) (by kernel_rfl) (by simp) ?_
          refine AllReadyH.cons rfl (fun K hK => ?_) AllReadyH.nil
          go_simp
          go_wp2_with (go_at_call 67; go_must (refine (CW.out _ _ hB hE9).mono ?_; rintro e w12 ⟨g', cap', rfl, hC, hB12⟩))
          have hB13 := hB.trans (hB12.mono hB.size)
          refine hK.out _ _ (Two.ofB hB13) (fun hHeld => ?_)
          clear hK K
          have hb13 := keep_block hB13 HB6.out
          obtain ⟨k0, k1, f0, f1⟩ := ref_facts hb13
          have HC := Lib.hid hC
          have HB13 := Lib.hid hB13
          have Hb13 := Lib.hid hb13
          clear hC hB12 hB13 hb13 hB hE hPo hE9
          refine wpAnyH_ready (rs := [13]) (by kernel_rfl) (by simp) ?_
          refine AllReadyH.cons rfl (fun K hK => ?_) AllReadyH.nil
          go_simp
          refine hK.out _ _ ((hHeld.setCell (.inl rfl) _).setCell (.inl rfl) _) (fun hHeld => ?_)
          clear hK K
          refine wpAnyH_take (i := 14) (oi := ⟨some 7, _, _, _, _, _⟩) (v := ?_) rfl (by kernel_rfl) (by kernel_rfl) (by kernel_rfl) (fun _ _ _ h => h) (Or.inl ⟨by rfl, ?_⟩) hHeld ?_
          rotate_left
          · intro w hSw
            go_simp
            try with_reducible rfl
          try simp only [Act.put, List.setIfInBounds_toArray, List.set_cons_zero, List.set_cons_succ]
          refine wpAnyH_done (by kernel_rfl) ?_ _
          go_wp2_with fail
          (try simp only [Exit.inBlock, Exit.then])
          refine bodyPost_ret (res_row_tmp rfl _ _ _ _ _ _ _ rfl (ref_box2 Hb13.out _ _) Try.underlying89 rfl rfl) rfl ?_
          exact ⟨g', cap', _, rfl, HC.out.result Hb13.out (HB1.out.trans (HB13.out.mono HB1.out.size)) HLT6.out _ _⟩
  · rw [if_pos (by rfl)]
    refine OW.wp_slice_one (s := 44) (cs := x) (n := 46) rfl (by rfl) Try.underlying83 pkt_size ⟨.agg PZ, by rw [Hi.out]; simp [Hz0.out]⟩ (by omega) (by omega) HPX.out.pk.size ?_
    refine hK.out _ _ (hHeld.next ((Below.refl _ _).alloc (Nat.le_refl _) _)) (fun hHeld => ?_)
    clear hK K
    have hB : Below w1.heap.size w1 (W0.alloc (.cells x 79)) := hB.alloc hB.size _
    have hPo : (W0.alloc (.cells x 79)).ownsRow base 79 46 (.slice (some ⟨W0.heap.size, 0, none⟩) 1 1) 1 x.toList := World.ownsRow_lit W0 x 1 (Nat.le_trans hbs hB0.size) (by simp [maxLen]) (by have := HPX.out.pk.size; omega)
    have hge : w1.heap.size ≤ W0.heap.size := hB0.size
    try simp only [Act.put, List.setIfInBounds_toArray, List.set_cons_zero, List.set_cons_succ]
    generalize W0.alloc (.cells x 79) = W1 at *
    have hB0 := hB
    refine wpAnyH_ready (rs := [2]) (by kernel_rfl) (by simp) ?_
    refine AllReadyH.cons (o := ⟨some 37, _, _, _, _, _⟩) rfl (fun K hK => ?_) AllReadyH.nil
    · go_simp
      refine hK.out _ _ (hHeld.next ((Below.refl _ _).alloc (Nat.le_refl _) _)) (fun hHeld => ?_)
      clear hK K
      have hB : Below w1.heap.size w1 (W1.alloc (.cells #[] 79)) := hB.alloc hB.size _
      have hE : (W1.alloc (.cells #[] 79)).ownsRow base 79 46 (.slice (some ⟨W1.heap.size, 0, none⟩) 0 0) 0 [] := OW.empty (Go.heap_alloc_new W1 _) (Nat.le_trans hbs hB0.size)
      have hne : W0.heap.size < W1.heap.size := (World.ownsRow.lt hPo _ rfl).2
      have hPo := hPo.alloc (.cells #[] 79)
      have hge : w1.heap.size ≤ W1.heap.size := hB0.size
      try simp only [Act.put, List.setIfInBounds_toArray, List.set_cons_zero, List.set_cons_succ]
      generalize W1.alloc (.cells #[] 79) = W2 at *
      have hB0 := hB
      refine wpAnyH_ready (rs := [8]) (by kernel_rfl) (by simp) ?_
      refine AllReadyH.cons (o := ⟨some 43, _, _, _, _, _⟩) rfl (fun K hK => ?_) AllReadyH.nil
      · rw [if_pos (by rfl)]
        refine OW.wp_append_row _ (.tmp 37) (.tmp 42) 83 rfl base 79 i0 (.agg PZ) 46 64 Try.underlying83 Hi.out Hz0.out Hz1.out Hz2.out rfl (by omega) _ 0 [] (by rfl) hE (.slice A ql c0) base ql (cellsL l) (by rfl) (OW.below HROW.out hB) HONE.out (by simp only [maxLen]; omega) (by omega) (Nat.le_trans hbs hB.size) ?_
        intro v6 W3 hE6 hg6 hat6
        have hB : Below w1.heap.size w1 W3 := hB.grown hg6 hB.size (fun q hq => by simp [Value.ownBlock] at hq; omega)
        have hge6 : ∀ q, v6.ownBlock = some q → w1.heap.size ≤ q := by
          intro q hq
          rcases hat6 with h | h
          · rw [h] at hq; simp [Value.ownBlock] at hq; omega
          · rw [h] at hq; simp at hq; have := hB0.size; omega
        have hPo := hPo.kept hg6 (.inr (by simp [Value.ownBlock]; omega))
        rw [Nat.zero_add, List.nil_append] at hE6
        obtain ⟨A6, c6, rfl⟩ := OW.slice hE6
        have hE := hE6
        clear hE6 hg6 hat6
        refine hK.out _ _ (Two.ofB hB) (fun hHeld => ?_)
        clear hK K
        try simp only [Act.put, List.setIfInBounds_toArray, List.set_cons_zero, List.set_cons_succ]
        have hB0 := hB
        refine wpAnyH_ready (rs := [11]) (by kernel_rfl) (by simp) ?_
        refine AllReadyH.cons (o := ⟨some 46, _, _, _, _, _⟩) rfl (fun K hK => ?_) AllReadyH.nil
        · rw [if_pos (by rfl)]
          refine OW.wp_append_row _ (.tmp 43) (.tmp 45) 83 rfl base 79 i0 (.agg PZ) 46 64 Try.underlying83 Hi.out Hz0.out Hz1.out Hz2.out rfl (by omega) _ ql (cellsL l) (by rfl) hE _ base 1 x.toList (by rfl) hPo HXONE.out (by simp only [maxLen]; omega) (by omega) (Nat.le_trans hbs hB.size) ?_
          intro v9 W4 hE9 hg9 hat9
          have hB : Below w1.heap.size w1 W4 := hB.grown hg9 hB.size hge6
          rw [show cellsL l ++ x.toList = cellsL (l ++ [x]) by rw [cellsL_append, cellsL_one], show ql + 1 = (l ++ [x]).length by rw [List.length_append, HQL.out]; rfl] at hE9
          refine hK.out _ _ (Two.ofB hB) (fun hHeld => ?_)
          clear hK K hg9 hat9
          try simp only [Act.put, List.setIfInBounds_toArray, List.set_cons_zero, List.set_cons_succ]
          refine wpAnyH_ready (rs := [12]) (by kernel_rfl) (by simp) ?_
          refine AllReadyH.cons rfl (fun K hK => ?_) AllReadyH.nil
          go_simp
          go_wp2_with (go_at_call 67; go_must (refine (CW.out _ _ hB hE9).mono ?_; rintro e w12 ⟨g', cap', rfl, hC, hB12⟩))
          have hB13 := hB.trans (hB12.mono hB.size)
          refine hK.out _ _ (Two.ofB hB13) (fun hHeld => ?_)
          clear hK K
          have hb13 := keep_block hB13 HB6.out
          obtain ⟨k0, k1, f0, f1⟩ := ref_facts hb13
          have HC := Lib.hid hC
          have HB13 := Lib.hid hB13
          have Hb13 := Lib.hid hb13
          clear hC hB12 hB13 hb13 hB hE hPo hE9
          refine wpAnyH_ready (rs := [13]) (by kernel_rfl) (by simp) ?_
          refine AllReadyH.cons rfl (fun K hK => ?_) AllReadyH.nil
          go_simp
          refine hK.out _ _ ((hHeld.setCell (.inl rfl) _).setCell (.inl rfl) _) (fun hHeld => ?_)
          clear hK K
          refine wpAnyH_take (i := 14) (oi := ⟨some 7, _, _, _, _, _⟩) (v := ?_) rfl (by kernel_rfl) (by kernel_rfl) (by kernel_rfl) (fun _ _ _ h => h) (Or.inl ⟨by rfl, ?_⟩) hHeld ?_
          rotate_left
          · intro w hSw
            go_simp
            try with_reducible rfl
          try simp only [Act.put, List.setIfInBounds_toArray, List.set_cons_zero, List.set_cons_succ]
          refine wpAnyH_done (by kernel_rfl) ?_ _
          go_wp2_with fail
          (try simp only [Exit.inBlock, Exit.then])
          refine bodyPost_ret (res_row_tmp rfl _ _ _ _ _ _ _ rfl (ref_box2 Hb13.out _ _) Try.underlying89 rfl rfl) rfl ?_
          exact ⟨g', cap', _, rfl, HC.out.result Hb13.out (HB1.out.trans (HB13.out.mono HB1.out.size)) HLT6.out _ _⟩
end
end Go.Proofs.Ytgcfiiidhihkaaa.C
