/- The reference's store: the walk of Push. -/
import Derived.Test.YtgcfiiidhihkaaaRefS
import Derived.Deep.DeepMust
namespace Go.Proofs.Ytgcfiiidhihkaaa.C
open Go.RowKit
set_option linter.unusedVariables false
theorem Two.ofB {x y : Nat} {a b : World} (p : Below a.heap.size a b) : Two x y a b := ⟨p.os, p.tape, p.output, p.size, fun k hk _ _ => p.block k hk⟩
theorem Two.next {x y : Nat} {a b c : World} (p : Two x y a b) (q : Below b.heap.size b c) : Two x y a c := p.trans (Two.ofB q)
theorem ref_box2 {w : World} {b : Nat} {u0 u1 : Value} {t : TypeId} (h : w.heap[b]? = some (.cells #[u0, u1] t (0, 0))) (v0 v1 : Value) :
    ((w.setCell ⟨b, 0, none⟩ v0).setCell ⟨b, 1, none⟩ v1).heap[b]? = some (.cells #[v0, v1] t (0, 0)) := by
  have h0 := heap_setCell_same _ _ 0 _ _ v0 h
  have h1 := heap_setCell_same _ _ 1 _ _ v1 h0
  simpa using h1
theorem RS.result {w0 w : World} {base g cap b : Nat} {S : List Value} {L : List (List (Array Value))} {u0 u1 : Value} (h : RS w base g cap S L) (hb : w.heap[b]? = some (.cells #[u0, u1] 89 (0, 0))) (hB : Below w0.heap.size w0 w) (hb0 : w0.heap.size ≤ b) (v0 v1 : Value) :
    RS ((w.setCell ⟨b, 0, none⟩ v0).setCell ⟨b, 1, none⟩ v1) base g cap S L ∧ Below w0.heap.size w0 ((w.setCell ⟨b, 0, none⟩ v0).setCell ⟨b, 1, none⟩ v1) := by
  have hb1 := heap_setCell_same _ _ 0 _ _ v0 hb
  exact ⟨(h.box (j := 0) hb v0).box (j := 1) hb1 v1, (hB.setCell hb0 _).setCell hb0 _⟩
/-- What the guards of Push read. -/
structure PG (w0 : World) (base g cap m : Nat) (S : List Value) (L : List (List (Array Value))) (n : Nat) (x : Array Value) (len : Int) (b0 b5 b6 : Nat) (w : World) : Prop where
  row : RS w base g cap S L
  box0 : w.heap[b0]? = some (.cells #[.slice (some ⟨g, 0, none⟩) n cap, .int .i64 (m : Nat)] 89 (0, 0))
  box5 : w.heap[b5]? = some (.cells x 79 (0, 0))
  box6 : w.heap[b6]? = some (.cells #[.slice none 0 0, .int .i64 0] 89 (0, 0))
  x45 : x[45]? = some (.int .i64 len)
  below : Below w0.heap.size w0 w
section
variable {w0 w w' : World} {base g cap m : Nat} {S : List Value} {L : List (List (Array Value))} {n : Nat} {x : Array Value} {len : Int} {b0 b5 b6 : Nat}
theorem PG.next (h : PG w0 base g cap m S L n x len b0 b5 b6 w) (p : Below w.heap.size w w') : PG w0 base g cap m S L n x len b0 b5 b6 w' :=
  ⟨h.row.below p, keep_block p h.box0, keep_block p h.box5, keep_block p h.box6, h.x45, h.below.trans (p.mono h.below.size)⟩
theorem PG.facts (h : PG w0 base g cap m S L n x len b0 b5 b6 w) : w.cell? ⟨b0, 0, none⟩ = some (.slice (some ⟨g, 0, none⟩) n cap) ∧ w.cell? ⟨b0, 1, none⟩ = some (.int .i64 (m : Nat)) ∧ w.cell? ⟨b5, 45, none⟩ = some (.int .i64 len) := by
  obtain ⟨c0, c1, _, _⟩ := ref_facts h.box0
  exact ⟨c0, c1, by rw [cell_of_row _ _ _ _ _ _ h.box5]; exact h.x45⟩
end
section
variable {w : World} {base g cap m : Nat} {S : List Value} {L : List (List (Array Value))}
set_option maxRecDepth 100000 in
set_option maxHeartbeats 1000000 in
theorem rs_push_no (c len : Int) (x : Array Value) (h : RS w base g cap S L) (hL : L.length ≤ 129) (hT : total L ≤ 4096) (hm : m ≤ 4096) (hx : PkL x len)
    (hc : c < 0 ∨ (0 ≤ c ∧ (L.length : Int) ≤ c) ∨ (0 ≤ c ∧ c < (L.length : Int) ∧ m ≤ total L) ∨ (0 ≤ c ∧ c < (L.length : Int) ∧ total L < m ∧ len < 1) ∨ (0 ≤ c ∧ c < (L.length : Int) ∧ total L < m ∧ 1 ≤ len ∧ 9216 < len)) :
    Calls Try.prog 50 #[rv g cap L.length m, .int .i64 c, .agg x] w fun e w' => e = .returned (.tuple #[rv g cap L.length m, .bool false]) ∧ Below w.heap.size w w' := by
  have CW := Lib.hid (fun w' (hr : RS w' base g cap S L) => rs_waits (m := m) hr hL hT)
  have HH := Lib.hid h
  have HX45 := Lib.hid hx.len
  clear h hx
  generalize hn : L.length = n at *
  have HN := Lib.hid hn
  generalize total L = t at *
  clear hn
  rcases hc with hc | ⟨hc0, hc⟩ | ⟨hc0, hc1, hc⟩ | ⟨hc0, hc1, hc2, hc⟩ | ⟨hc0, hc1, hc2, hc3, hc⟩
  · have d0_0 : decide (c < 0) = true := decide_eq_true (by omega)
    go_enter Try.func50, Try.ntmps50
    go_upto_region 1 with (first
      | ((with_reducible refine arm_box 3 0 89 #[.slice (some ⟨g, 0, none⟩) n cap, .int .i64 (m : Nat)] ?_ ?_); rfl; intro w0 HB0 HX0 HS0)
      | ((with_reducible refine arm_box 5 2 79 x ?_ ?_); rfl; intro w5 HB5 HX5 HS5)
      | ((with_reducible refine arm_alloc 6 89 #[.slice none 0 0, .int .i64 0] 2 (by kernel_rfl) ?_); intro w6 HB6 HX6 HS6))
    have hB := HB0.out.trans ((HB5.out.trans (HB6.out.mono HB5.out.size)).mono HB0.out.size)
    have hPG : PG w base g cap m S L n x len w.heap.size w0.heap.size w5.heap.size w6 := ⟨HH.out.below hB, keep_block HB6.out (keep_block HB5.out HX0.out), keep_block HB6.out HX5.out, HX6.out, HX45.out, hB⟩
    have hl6 : w.heap.size ≤ w5.heap.size := by have := HB0.out.size; have := HB5.out.size; omega
    clear hB HB0 HX0 HS0 HB5 HX5 HS5 HB6 HX6 HS6
    generalize w0.heap.size = b5 at *
    generalize w5.heap.size = b6 at *
    have HLT6 := Lib.hid hl6
    clear hl6
    have CWA := Lib.hid (fun w' (hp : PG w base g cap m S L n x len w.heap.size b5 b6 w') => (CW.out w' hp.row).mono fun e w'' h2 => (show e = _ ∧ PG w base g cap m S L n x len w.heap.size b5 b6 w'' from ⟨h2.1, hp.next h2.2⟩))
    refine wp_region_cls (PG w base g cap m S L n x len w.heap.size b5 b6) (by kernel_rfl) (by kernel_rfl) (hPG.next (Below.refl _ _).drew) ?_
    refine wq_step (fun K hK => ?_)
    rw [if_pos (by rfl)]
    refine ⟨?_, fun w hSw => ?_, hK _ ?_⟩
    rotate_left
    · clear hSw
      go_simp
      try with_reducible rfl
    clear hK K
    try simp only [Act.put, List.setIfInBounds_toArray, List.set_cons_zero, List.set_cons_succ]
    refine wq_step (fun K hK => ?_)
    rw [if_pos (by rfl)]
    refine ⟨?_, fun w hSw => ?_, hK _ ?_⟩
    rotate_left
    · clear hSw
      go_simp
      try with_reducible rfl
    clear hK K
    try simp only [Act.put, List.setIfInBounds_toArray, List.set_cons_zero, List.set_cons_succ]
    refine wq_step (fun K hK => ?_)
    rw [if_pos (by rfl)]
    refine ⟨?_, fun w hSw => ?_, hK _ ?_⟩
    rotate_left
    · clear hSw
      go_simp
      try with_reducible rfl
    clear hK K
    try simp only [Act.put, List.setIfInBounds_toArray, List.set_cons_zero, List.set_cons_succ]
    refine wq_step (fun K hK => ?_)
    rw [if_neg (Bool.eq_false_iff.1 (by rfl))]
    refine hK _ ?_
    clear hK K
    try simp only [Act.put, List.setIfInBounds_toArray, List.set_cons_zero, List.set_cons_succ]
    refine wq_step (fun K hK => ?_)
    rw [if_neg (Bool.eq_false_iff.1 (by rfl))]
    refine hK _ ?_
    clear hK K
    try simp only [Act.put, List.setIfInBounds_toArray, List.set_cons_zero, List.set_cons_succ]
    refine wq_step (fun K hK => ?_)
    rw [if_neg (Bool.eq_false_iff.1 (by rfl))]
    refine hK _ ?_
    clear hK K
    try simp only [Act.put, List.setIfInBounds_toArray, List.set_cons_zero, List.set_cons_succ]
    refine wq_step (fun K hK => ?_)
    rw [if_neg (Bool.eq_false_iff.1 (by rfl))]
    refine hK _ ?_
    clear hK K
    try simp only [Act.put, List.setIfInBounds_toArray, List.set_cons_zero, List.set_cons_succ]
    refine wq_step (fun K hK => ?_)
    rw [if_neg (Bool.eq_false_iff.1 (by rfl))]
    refine hK _ ?_
    clear hK K
    try simp only [Act.put, List.setIfInBounds_toArray, List.set_cons_zero, List.set_cons_succ]
    refine wq_step (fun K hK => ?_)
    rw [if_pos (by rfl)]
    refine ⟨?_, fun w hSw => ?_, hK _ ?_⟩
    rotate_left
    · clear hSw
      go_simp
      try with_reducible rfl
    clear hK K
    try simp only [Act.put, List.setIfInBounds_toArray, List.set_cons_zero, List.set_cons_succ]
    refine wq_step (fun K hK => ?_)
    rw [if_pos (by rfl)]
    refine ⟨?_, fun w hSw => ?_, hK _ ?_⟩
    rotate_left
    · clear hSw
      go_simp
      try with_reducible rfl
    clear hK K
    try simp only [Act.put, List.setIfInBounds_toArray, List.set_cons_zero, List.set_cons_succ]
    refine wq_step (fun K hK => ?_)
    rw [if_neg (Bool.eq_false_iff.1 (by rfl))]
    refine hK _ ?_
    clear hK K
    try simp only [Act.put, List.setIfInBounds_toArray, List.set_cons_zero, List.set_cons_succ]
    refine wq_step (fun K hK => ?_)
    rw [if_neg (Bool.eq_false_iff.1 (by rfl))]
    refine hK _ ?_
    clear hK K
    try simp only [Act.put, List.setIfInBounds_toArray, List.set_cons_zero, List.set_cons_succ]
    refine wq_step (fun K hK => ?_)
    rw [if_neg (Bool.eq_false_iff.1 (by rfl))]
    refine hK _ ?_
    clear hK K
    try simp only [Act.put, List.setIfInBounds_toArray, List.set_cons_zero, List.set_cons_succ]
    refine wq_step (fun K hK => ?_)
    rw [if_neg (Bool.eq_false_iff.1 (by rfl))]
    refine hK _ ?_
    clear hK K
    try simp only [Act.put, List.setIfInBounds_toArray, List.set_cons_zero, List.set_cons_succ]
    refine wq_step (fun K hK => ?_)
    rw [if_neg (Bool.eq_false_iff.1 (by rfl))]
    refine hK _ ?_
    clear hK K
    try simp only [Act.put, List.setIfInBounds_toArray, List.set_cons_zero, List.set_cons_succ]
    refine wq_step (fun K hK => ?_)
    rw [if_pos (by rfl)]
    refine ⟨?_, fun w hSw => ?_, hK _ ?_⟩
    rotate_left
    · clear hSw
      go_simp
      try with_reducible rfl
    clear hK K
    try simp only [Act.put, List.setIfInBounds_toArray, List.set_cons_zero, List.set_cons_succ]
    refine wq_step (fun K hK => ?_)
    rw [if_pos (by rfl)]
    refine ⟨?_, fun w hSw => ?_, hK _ ?_⟩
    rotate_left
    · clear hSw
      go_simp
      try with_reducible rfl
    clear hK K
    try simp only [Act.put, List.setIfInBounds_toArray, List.set_cons_zero, List.set_cons_succ]
    refine wq_step (fun K hK => ?_)
    rw [if_neg (Bool.eq_false_iff.1 (by rfl))]
    refine hK _ ?_
    clear hK K
    try simp only [Act.put, List.setIfInBounds_toArray, List.set_cons_zero, List.set_cons_succ]
    refine wq_step (fun K hK => ?_)
    rw [if_neg (Bool.eq_false_iff.1 (by rfl))]
    refine hK _ ?_
    clear hK K
    try simp only [Act.put, List.setIfInBounds_toArray, List.set_cons_zero, List.set_cons_succ]
    refine wq_step (fun K hK => ?_)
    rw [if_neg (Bool.eq_false_iff.1 (by rfl))]
    refine hK _ ?_
    clear hK K
    try simp only [Act.put, List.setIfInBounds_toArray, List.set_cons_zero, List.set_cons_succ]
    refine wq_step (fun K hK => ?_)
    rw [if_pos (by rfl)]
    refine ⟨?_, fun w hSw => ?_, hK _ ?_⟩
    rotate_left
    · clear hSw
      go_simp
      try with_reducible rfl
    clear hK K
    try simp only [Act.put, List.setIfInBounds_toArray, List.set_cons_zero, List.set_cons_succ]
    refine wq_step (fun K hK => ?_)
    rw [if_pos (by rfl)]
    refine ⟨?_, fun w hSw => ?_, hK _ ?_⟩
    rotate_left
    · clear hSw
      go_simp
      try with_reducible rfl
    clear hK K
    try simp only [Act.put, List.setIfInBounds_toArray, List.set_cons_zero, List.set_cons_succ]
    refine wq_step (fun K hK => ?_)
    rw [if_neg (Bool.eq_false_iff.1 (by rfl))]
    refine hK _ ?_
    clear hK K
    try simp only [Act.put, List.setIfInBounds_toArray, List.set_cons_zero, List.set_cons_succ]
    refine wq_step (fun K hK => ?_)
    rw [if_neg (Bool.eq_false_iff.1 (by rfl))]
    refine hK _ ?_
    clear hK K
    try simp only [Act.put, List.setIfInBounds_toArray, List.set_cons_zero, List.set_cons_succ]
    refine wq_step (fun K hK => ?_)
    rw [if_neg (Bool.eq_false_iff.1 (by rfl))]
    refine hK _ ?_
    clear hK K
    try simp only [Act.put, List.setIfInBounds_toArray, List.set_cons_zero, List.set_cons_succ]
    refine wq_step (fun K hK => ?_)
    rw [if_pos (by rfl)]
    refine ⟨?_, fun w hSw => ?_, hK _ ?_⟩
    rotate_left
    · clear hSw
      go_simp
      try with_reducible rfl
    clear hK K
    try simp only [Act.put, List.setIfInBounds_toArray, List.set_cons_zero, List.set_cons_succ]
    refine wq_nil ?_
    intro w9 hHeld
    clear hPG CWA CW
    obtain ⟨c0, c1, x45⟩ := hHeld.facts
    obtain ⟨k0, k1, f0, f1⟩ := ref_facts hHeld.box6
    have HP := Lib.hid hHeld
    clear hHeld
    go_wp2
    (try simp only [Exit.inBlock, Exit.then])
    refine bodyPost_ret (res_row_tmp rfl _ _ _ _ _ _ _ rfl (ref_box2 HP.out.box6 _ _) Try.underlying89 rfl rfl) rfl ?_
    exact ⟨rfl, (HP.out.below.setCell HLT6.out _).setCell HLT6.out _⟩
  · have d0_0 : decide (c < 0) = false := decide_eq_false (by omega)
    have d1_0 : decide ((n : Int) ≤ c) = true := decide_eq_true (by omega)
    go_enter Try.func50, Try.ntmps50
    go_upto_region 1 with (first
      | ((with_reducible refine arm_box 3 0 89 #[.slice (some ⟨g, 0, none⟩) n cap, .int .i64 (m : Nat)] ?_ ?_); rfl; intro w0 HB0 HX0 HS0)
      | ((with_reducible refine arm_box 5 2 79 x ?_ ?_); rfl; intro w5 HB5 HX5 HS5)
      | ((with_reducible refine arm_alloc 6 89 #[.slice none 0 0, .int .i64 0] 2 (by kernel_rfl) ?_); intro w6 HB6 HX6 HS6))
    have hB := HB0.out.trans ((HB5.out.trans (HB6.out.mono HB5.out.size)).mono HB0.out.size)
    have hPG : PG w base g cap m S L n x len w.heap.size w0.heap.size w5.heap.size w6 := ⟨HH.out.below hB, keep_block HB6.out (keep_block HB5.out HX0.out), keep_block HB6.out HX5.out, HX6.out, HX45.out, hB⟩
    have hl6 : w.heap.size ≤ w5.heap.size := by have := HB0.out.size; have := HB5.out.size; omega
    clear hB HB0 HX0 HS0 HB5 HX5 HS5 HB6 HX6 HS6
    generalize w0.heap.size = b5 at *
    generalize w5.heap.size = b6 at *
    have HLT6 := Lib.hid hl6
    clear hl6
    have CWA := Lib.hid (fun w' (hp : PG w base g cap m S L n x len w.heap.size b5 b6 w') => (CW.out w' hp.row).mono fun e w'' h2 => (show e = _ ∧ PG w base g cap m S L n x len w.heap.size b5 b6 w'' from ⟨h2.1, hp.next h2.2⟩))
    refine wp_region_cls (PG w base g cap m S L n x len w.heap.size b5 b6) (by kernel_rfl) (by kernel_rfl) (hPG.next (Below.refl _ _).drew) ?_
    refine wq_step (fun K hK => ?_)
    rw [if_pos (by rfl)]
    refine ⟨?_, fun w hSw => ?_, hK _ ?_⟩
    rotate_left
    · clear hSw
      go_simp
      try with_reducible rfl
    clear hK K
    try simp only [Act.put, List.setIfInBounds_toArray, List.set_cons_zero, List.set_cons_succ]
    refine wq_step (fun K hK => ?_)
    rw [if_pos (by rfl)]
    refine ⟨?_, fun w hSw => ?_, hK _ ?_⟩
    rotate_left
    · clear hSw
      go_simp
      try with_reducible rfl
    clear hK K
    try simp only [Act.put, List.setIfInBounds_toArray, List.set_cons_zero, List.set_cons_succ]
    refine wq_step (fun K hK => ?_)
    rw [if_pos (by rfl)]
    refine ⟨?_, fun w hSw => ?_, hK _ ?_⟩
    rotate_left
    · clear hSw
      go_simp
      try with_reducible rfl
    clear hK K
    try simp only [Act.put, List.setIfInBounds_toArray, List.set_cons_zero, List.set_cons_succ]
    refine wq_step (fun K hK => ?_)
    rw [if_pos (by rfl)]
    refine ⟨?_, fun w hSw => ?_, hK _ ?_⟩
    rotate_left
    · clear hSw
      go_simp
      try with_reducible rfl
    clear hK K
    try simp only [Act.put, List.setIfInBounds_toArray, List.set_cons_zero, List.set_cons_succ]
    refine wq_step (fun K hK => ?_)
    rw [if_pos (by rfl)]
    refine ⟨?_, fun w hSw => ?_, hK _ ?_⟩
    rotate_left
    · clear hSw
      go_simp
      try with_reducible rfl
    clear hK K
    try simp only [Act.put, List.setIfInBounds_toArray, List.set_cons_zero, List.set_cons_succ]
    refine wq_step (fun K hK => ?_)
    rw [if_pos (by rfl)]
    refine ⟨?_, fun w hSw => ?_, hK _ ?_⟩
    rotate_left
    · obtain ⟨c0, c1, x45⟩ := hSw.facts
      go_simp
      try with_reducible rfl
    clear hK K
    try simp only [Act.put, List.setIfInBounds_toArray, List.set_cons_zero, List.set_cons_succ]
    refine wq_step (fun K hK => ?_)
    rw [if_pos (by rfl)]
    refine ⟨?_, fun w hSw => ?_, hK _ ?_⟩
    rotate_left
    · clear hSw
      go_simp
      try with_reducible rfl
    clear hK K
    try simp only [Act.put, List.setIfInBounds_toArray, List.set_cons_zero, List.set_cons_succ]
    refine wq_step (fun K hK => ?_)
    rw [if_pos (by rfl)]
    refine ⟨?_, fun w hSw => ?_, hK _ ?_⟩
    rotate_left
    · clear hSw
      go_simp
      try with_reducible rfl
    clear hK K
    try simp only [Act.put, List.setIfInBounds_toArray, List.set_cons_zero, List.set_cons_succ]
    refine wq_step (fun K hK => ?_)
    rw [if_pos (by rfl)]
    refine ⟨?_, fun w hSw => ?_, hK _ ?_⟩
    rotate_left
    · clear hSw
      go_simp
      try with_reducible rfl
    clear hK K
    try simp only [Act.put, List.setIfInBounds_toArray, List.set_cons_zero, List.set_cons_succ]
    refine wq_step (fun K hK => ?_)
    rw [if_pos (by rfl)]
    refine ⟨?_, fun w hSw => ?_, hK _ ?_⟩
    rotate_left
    · clear hSw
      go_simp
      try with_reducible rfl
    clear hK K
    try simp only [Act.put, List.setIfInBounds_toArray, List.set_cons_zero, List.set_cons_succ]
    refine wq_step (fun K hK => ?_)
    rw [if_neg (Bool.eq_false_iff.1 (by rfl))]
    refine hK _ ?_
    clear hK K
    try simp only [Act.put, List.setIfInBounds_toArray, List.set_cons_zero, List.set_cons_succ]
    refine wq_step (fun K hK => ?_)
    rw [if_neg (Bool.eq_false_iff.1 (by rfl))]
    refine hK _ ?_
    clear hK K
    try simp only [Act.put, List.setIfInBounds_toArray, List.set_cons_zero, List.set_cons_succ]
    refine wq_step (fun K hK => ?_)
    rw [if_neg (Bool.eq_false_iff.1 (by rfl))]
    refine hK _ ?_
    clear hK K
    try simp only [Act.put, List.setIfInBounds_toArray, List.set_cons_zero, List.set_cons_succ]
    refine wq_step (fun K hK => ?_)
    rw [if_neg (Bool.eq_false_iff.1 (by rfl))]
    refine hK _ ?_
    clear hK K
    try simp only [Act.put, List.setIfInBounds_toArray, List.set_cons_zero, List.set_cons_succ]
    refine wq_step (fun K hK => ?_)
    rw [if_neg (Bool.eq_false_iff.1 (by rfl))]
    refine hK _ ?_
    clear hK K
    try simp only [Act.put, List.setIfInBounds_toArray, List.set_cons_zero, List.set_cons_succ]
    refine wq_step (fun K hK => ?_)
    rw [if_pos (by rfl)]
    refine ⟨?_, fun w hSw => ?_, hK _ ?_⟩
    rotate_left
    · clear hSw
      go_simp
      try with_reducible rfl
    clear hK K
    try simp only [Act.put, List.setIfInBounds_toArray, List.set_cons_zero, List.set_cons_succ]
    refine wq_step (fun K hK => ?_)
    rw [if_pos (by rfl)]
    refine ⟨?_, fun w hSw => ?_, hK _ ?_⟩
    rotate_left
    · clear hSw
      go_simp
      try with_reducible rfl
    clear hK K
    try simp only [Act.put, List.setIfInBounds_toArray, List.set_cons_zero, List.set_cons_succ]
    refine wq_step (fun K hK => ?_)
    rw [if_neg (Bool.eq_false_iff.1 (by rfl))]
    refine hK _ ?_
    clear hK K
    try simp only [Act.put, List.setIfInBounds_toArray, List.set_cons_zero, List.set_cons_succ]
    refine wq_step (fun K hK => ?_)
    rw [if_neg (Bool.eq_false_iff.1 (by rfl))]
    refine hK _ ?_
    clear hK K
    try simp only [Act.put, List.setIfInBounds_toArray, List.set_cons_zero, List.set_cons_succ]
    refine wq_step (fun K hK => ?_)
    rw [if_neg (Bool.eq_false_iff.1 (by rfl))]
    refine hK _ ?_
    clear hK K
    try simp only [Act.put, List.setIfInBounds_toArray, List.set_cons_zero, List.set_cons_succ]
    refine wq_step (fun K hK => ?_)
    rw [if_pos (by rfl)]
    refine ⟨?_, fun w hSw => ?_, hK _ ?_⟩
    rotate_left
    · clear hSw
      go_simp
      try with_reducible rfl
    clear hK K
    try simp only [Act.put, List.setIfInBounds_toArray, List.set_cons_zero, List.set_cons_succ]
    refine wq_step (fun K hK => ?_)
    rw [if_pos (by rfl)]
    refine ⟨?_, fun w hSw => ?_, hK _ ?_⟩
    rotate_left
    · clear hSw
      go_simp
      try with_reducible rfl
    clear hK K
    try simp only [Act.put, List.setIfInBounds_toArray, List.set_cons_zero, List.set_cons_succ]
    refine wq_step (fun K hK => ?_)
    rw [if_neg (Bool.eq_false_iff.1 (by rfl))]
    refine hK _ ?_
    clear hK K
    try simp only [Act.put, List.setIfInBounds_toArray, List.set_cons_zero, List.set_cons_succ]
    refine wq_step (fun K hK => ?_)
    rw [if_neg (Bool.eq_false_iff.1 (by rfl))]
    refine hK _ ?_
    clear hK K
    try simp only [Act.put, List.setIfInBounds_toArray, List.set_cons_zero, List.set_cons_succ]
    refine wq_step (fun K hK => ?_)
    rw [if_neg (Bool.eq_false_iff.1 (by rfl))]
    refine hK _ ?_
    clear hK K
    try simp only [Act.put, List.setIfInBounds_toArray, List.set_cons_zero, List.set_cons_succ]
    refine wq_step (fun K hK => ?_)
    rw [if_pos (by rfl)]
    refine ⟨?_, fun w hSw => ?_, hK _ ?_⟩
    rotate_left
    · clear hSw
      go_simp
      try with_reducible rfl
    clear hK K
    try simp only [Act.put, List.setIfInBounds_toArray, List.set_cons_zero, List.set_cons_succ]
    refine wq_nil ?_
    intro w9 hHeld
    clear hPG CWA CW
    obtain ⟨c0, c1, x45⟩ := hHeld.facts
    obtain ⟨k0, k1, f0, f1⟩ := ref_facts hHeld.box6
    have HP := Lib.hid hHeld
    clear hHeld
    go_wp2
    (try simp only [Exit.inBlock, Exit.then])
    refine bodyPost_ret (res_row_tmp rfl _ _ _ _ _ _ _ rfl (ref_box2 HP.out.box6 _ _) Try.underlying89 rfl rfl) rfl ?_
    exact ⟨rfl, (HP.out.below.setCell HLT6.out _).setCell HLT6.out _⟩
  · have d0_0 : decide (c < 0) = false := decide_eq_false (by omega)
    have d1_0 : decide ((n : Int) ≤ c) = false := decide_eq_false (by omega)
    have d2_0 : decide ((m : Int) ≤ (t : Int)) = true := decide_eq_true (by omega)
    have d2_1 : decide (m ≤ t) = true := decide_eq_true (by omega)
    go_enter Try.func50, Try.ntmps50
    go_upto_region 1 with (first
      | ((with_reducible refine arm_box 3 0 89 #[.slice (some ⟨g, 0, none⟩) n cap, .int .i64 (m : Nat)] ?_ ?_); rfl; intro w0 HB0 HX0 HS0)
      | ((with_reducible refine arm_box 5 2 79 x ?_ ?_); rfl; intro w5 HB5 HX5 HS5)
      | ((with_reducible refine arm_alloc 6 89 #[.slice none 0 0, .int .i64 0] 2 (by kernel_rfl) ?_); intro w6 HB6 HX6 HS6))
    have hB := HB0.out.trans ((HB5.out.trans (HB6.out.mono HB5.out.size)).mono HB0.out.size)
    have hPG : PG w base g cap m S L n x len w.heap.size w0.heap.size w5.heap.size w6 := ⟨HH.out.below hB, keep_block HB6.out (keep_block HB5.out HX0.out), keep_block HB6.out HX5.out, HX6.out, HX45.out, hB⟩
    have hl6 : w.heap.size ≤ w5.heap.size := by have := HB0.out.size; have := HB5.out.size; omega
    clear hB HB0 HX0 HS0 HB5 HX5 HS5 HB6 HX6 HS6
    generalize w0.heap.size = b5 at *
    generalize w5.heap.size = b6 at *
    have HLT6 := Lib.hid hl6
    clear hl6
    have CWA := Lib.hid (fun w' (hp : PG w base g cap m S L n x len w.heap.size b5 b6 w') => (CW.out w' hp.row).mono fun e w'' h2 => (show e = _ ∧ PG w base g cap m S L n x len w.heap.size b5 b6 w'' from ⟨h2.1, hp.next h2.2⟩))
    refine wp_region_cls (PG w base g cap m S L n x len w.heap.size b5 b6) (by kernel_rfl) (by kernel_rfl) (hPG.next (Below.refl _ _).drew) ?_
    refine wq_step (fun K hK => ?_)
    rw [if_pos (by rfl)]
    refine ⟨?_, fun w hSw => ?_, hK _ ?_⟩
    rotate_left
    · clear hSw
      go_simp
      try with_reducible rfl
    clear hK K
    try simp only [Act.put, List.setIfInBounds_toArray, List.set_cons_zero, List.set_cons_succ]
    refine wq_step (fun K hK => ?_)
    rw [if_pos (by rfl)]
    refine ⟨?_, fun w hSw => ?_, hK _ ?_⟩
    rotate_left
    · clear hSw
      go_simp
      try with_reducible rfl
    clear hK K
    try simp only [Act.put, List.setIfInBounds_toArray, List.set_cons_zero, List.set_cons_succ]
    refine wq_step (fun K hK => ?_)
    rw [if_pos (by rfl)]
    refine ⟨?_, fun w hSw => ?_, hK _ ?_⟩
    rotate_left
    · clear hSw
      go_simp
      try with_reducible rfl
    clear hK K
    try simp only [Act.put, List.setIfInBounds_toArray, List.set_cons_zero, List.set_cons_succ]
    refine wq_step (fun K hK => ?_)
    rw [if_pos (by rfl)]
    refine ⟨?_, fun w hSw => ?_, hK _ ?_⟩
    rotate_left
    · clear hSw
      go_simp
      try with_reducible rfl
    clear hK K
    try simp only [Act.put, List.setIfInBounds_toArray, List.set_cons_zero, List.set_cons_succ]
    refine wq_step (fun K hK => ?_)
    rw [if_pos (by rfl)]
    refine ⟨?_, fun w hSw => ?_, hK _ ?_⟩
    rotate_left
    · clear hSw
      go_simp
      try with_reducible rfl
    clear hK K
    try simp only [Act.put, List.setIfInBounds_toArray, List.set_cons_zero, List.set_cons_succ]
    refine wq_step (fun K hK => ?_)
    rw [if_pos (by rfl)]
    refine ⟨?_, fun w hSw => ?_, hK _ ?_⟩
    rotate_left
    · obtain ⟨c0, c1, x45⟩ := hSw.facts
      go_simp
      try with_reducible rfl
    clear hK K
    try simp only [Act.put, List.setIfInBounds_toArray, List.set_cons_zero, List.set_cons_succ]
    refine wq_step (fun K hK => ?_)
    rw [if_pos (by rfl)]
    refine ⟨?_, fun w hSw => ?_, hK _ ?_⟩
    rotate_left
    · clear hSw
      go_simp
      try with_reducible rfl
    clear hK K
    try simp only [Act.put, List.setIfInBounds_toArray, List.set_cons_zero, List.set_cons_succ]
    refine wq_step (fun K hK => ?_)
    rw [if_pos (by rfl)]
    refine ⟨?_, fun w hSw => ?_, hK _ ?_⟩
    rotate_left
    · clear hSw
      go_simp
      try with_reducible rfl
    clear hK K
    try simp only [Act.put, List.setIfInBounds_toArray, List.set_cons_zero, List.set_cons_succ]
    refine wq_step (fun K hK => ?_)
    rw [if_pos (by rfl)]
    refine ⟨?_, fun w hSw => ?_, hK _ ?_⟩
    rotate_left
    · clear hSw
      go_simp
      try with_reducible rfl
    clear hK K
    try simp only [Act.put, List.setIfInBounds_toArray, List.set_cons_zero, List.set_cons_succ]
    refine wq_step (fun K hK => ?_)
    rw [if_pos (by rfl)]
    refine ⟨?_, fun w hSw => ?_, hK _ ?_⟩
    rotate_left
    · clear hSw
      go_simp
      try with_reducible rfl
    clear hK K
    try simp only [Act.put, List.setIfInBounds_toArray, List.set_cons_zero, List.set_cons_succ]
    refine wq_step (fun K hK => ?_)
    rw [if_pos (by rfl)]
    refine ⟨?_, fun w hSw => ?_, hK _ ?_⟩
    rotate_left
    · obtain ⟨c0, c1, x45⟩ := hSw.facts
      go_simp
      try with_reducible rfl
    clear hK K
    try simp only [Act.put, List.setIfInBounds_toArray, List.set_cons_zero, List.set_cons_succ]
    refine wq_step (fun K hK => ?_)
    rw [if_pos (by rfl)]
    refine ⟨?_, fun w hSw => ?_, hK _ ?_⟩
    rotate_left
    · go_simp
      go_at_call 54
      with_reducible exact CWA.out w hSw
    clear hK K
    try simp only [Act.put, List.setIfInBounds_toArray, List.set_cons_zero, List.set_cons_succ]
    refine wq_step (fun K hK => ?_)
    rw [if_pos (by rfl)]
    refine ⟨?_, fun w hSw => ?_, hK _ ?_⟩
    rotate_left
    · clear hSw
      go_simp
      try with_reducible rfl
    clear hK K
    try simp only [Act.put, List.setIfInBounds_toArray, List.set_cons_zero, List.set_cons_succ]
    refine wq_step (fun K hK => ?_)
    rw [if_pos (by rfl)]
    refine ⟨?_, fun w hSw => ?_, hK _ ?_⟩
    rotate_left
    · obtain ⟨c0, c1, x45⟩ := hSw.facts
      go_simp
      try with_reducible rfl
    clear hK K
    try simp only [Act.put, List.setIfInBounds_toArray, List.set_cons_zero, List.set_cons_succ]
    refine wq_step (fun K hK => ?_)
    rw [if_pos (by rfl)]
    refine ⟨?_, fun w hSw => ?_, hK _ ?_⟩
    rotate_left
    · clear hSw
      go_simp
      try with_reducible rfl
    clear hK K
    try simp only [Act.put, List.setIfInBounds_toArray, List.set_cons_zero, List.set_cons_succ]
    refine wq_step (fun K hK => ?_)
    rw [if_pos (by rfl)]
    refine ⟨?_, fun w hSw => ?_, hK _ ?_⟩
    rotate_left
    · clear hSw
      go_simp
      try with_reducible rfl
    clear hK K
    try simp only [Act.put, List.setIfInBounds_toArray, List.set_cons_zero, List.set_cons_succ]
    refine wq_step (fun K hK => ?_)
    rw [if_pos (by rfl)]
    refine ⟨?_, fun w hSw => ?_, hK _ ?_⟩
    rotate_left
    · clear hSw
      go_simp
      try with_reducible rfl
    clear hK K
    try simp only [Act.put, List.setIfInBounds_toArray, List.set_cons_zero, List.set_cons_succ]
    refine wq_step (fun K hK => ?_)
    rw [if_neg (Bool.eq_false_iff.1 (by rfl))]
    refine hK _ ?_
    clear hK K
    try simp only [Act.put, List.setIfInBounds_toArray, List.set_cons_zero, List.set_cons_succ]
    refine wq_step (fun K hK => ?_)
    rw [if_neg (Bool.eq_false_iff.1 (by rfl))]
    refine hK _ ?_
    clear hK K
    try simp only [Act.put, List.setIfInBounds_toArray, List.set_cons_zero, List.set_cons_succ]
    refine wq_step (fun K hK => ?_)
    rw [if_neg (Bool.eq_false_iff.1 (by rfl))]
    refine hK _ ?_
    clear hK K
    try simp only [Act.put, List.setIfInBounds_toArray, List.set_cons_zero, List.set_cons_succ]
    refine wq_step (fun K hK => ?_)
    rw [if_pos (by rfl)]
    refine ⟨?_, fun w hSw => ?_, hK _ ?_⟩
    rotate_left
    · clear hSw
      go_simp
      try with_reducible rfl
    clear hK K
    try simp only [Act.put, List.setIfInBounds_toArray, List.set_cons_zero, List.set_cons_succ]
    refine wq_step (fun K hK => ?_)
    rw [if_pos (by rfl)]
    refine ⟨?_, fun w hSw => ?_, hK _ ?_⟩
    rotate_left
    · clear hSw
      go_simp
      try with_reducible rfl
    clear hK K
    try simp only [Act.put, List.setIfInBounds_toArray, List.set_cons_zero, List.set_cons_succ]
    refine wq_step (fun K hK => ?_)
    rw [if_neg (Bool.eq_false_iff.1 (by rfl))]
    refine hK _ ?_
    clear hK K
    try simp only [Act.put, List.setIfInBounds_toArray, List.set_cons_zero, List.set_cons_succ]
    refine wq_step (fun K hK => ?_)
    rw [if_neg (Bool.eq_false_iff.1 (by rfl))]
    refine hK _ ?_
    clear hK K
    try simp only [Act.put, List.setIfInBounds_toArray, List.set_cons_zero, List.set_cons_succ]
    refine wq_step (fun K hK => ?_)
    rw [if_neg (Bool.eq_false_iff.1 (by rfl))]
    refine hK _ ?_
    clear hK K
    try simp only [Act.put, List.setIfInBounds_toArray, List.set_cons_zero, List.set_cons_succ]
    refine wq_step (fun K hK => ?_)
    rw [if_pos (by rfl)]
    refine ⟨?_, fun w hSw => ?_, hK _ ?_⟩
    rotate_left
    · clear hSw
      go_simp
      try with_reducible rfl
    clear hK K
    try simp only [Act.put, List.setIfInBounds_toArray, List.set_cons_zero, List.set_cons_succ]
    refine wq_nil ?_
    intro w9 hHeld
    clear hPG CWA CW
    obtain ⟨c0, c1, x45⟩ := hHeld.facts
    obtain ⟨k0, k1, f0, f1⟩ := ref_facts hHeld.box6
    have HP := Lib.hid hHeld
    clear hHeld
    go_wp2
    (try simp only [Exit.inBlock, Exit.then])
    refine bodyPost_ret (res_row_tmp rfl _ _ _ _ _ _ _ rfl (ref_box2 HP.out.box6 _ _) Try.underlying89 rfl rfl) rfl ?_
    exact ⟨rfl, (HP.out.below.setCell HLT6.out _).setCell HLT6.out _⟩
  · have d0_0 : decide (c < 0) = false := decide_eq_false (by omega)
    have d1_0 : decide ((n : Int) ≤ c) = false := decide_eq_false (by omega)
    have d2_0 : decide ((m : Int) ≤ (t : Int)) = false := decide_eq_false (by omega)
    have d2_1 : decide (m ≤ t) = false := decide_eq_false (by omega)
    have d3_0 : decide (len < 1) = true := decide_eq_true (by omega)
    go_enter Try.func50, Try.ntmps50
    go_upto_region 1 with (first
      | ((with_reducible refine arm_box 3 0 89 #[.slice (some ⟨g, 0, none⟩) n cap, .int .i64 (m : Nat)] ?_ ?_); rfl; intro w0 HB0 HX0 HS0)
      | ((with_reducible refine arm_box 5 2 79 x ?_ ?_); rfl; intro w5 HB5 HX5 HS5)
      | ((with_reducible refine arm_alloc 6 89 #[.slice none 0 0, .int .i64 0] 2 (by kernel_rfl) ?_); intro w6 HB6 HX6 HS6))
    have hB := HB0.out.trans ((HB5.out.trans (HB6.out.mono HB5.out.size)).mono HB0.out.size)
    have hPG : PG w base g cap m S L n x len w.heap.size w0.heap.size w5.heap.size w6 := ⟨HH.out.below hB, keep_block HB6.out (keep_block HB5.out HX0.out), keep_block HB6.out HX5.out, HX6.out, HX45.out, hB⟩
    have hl6 : w.heap.size ≤ w5.heap.size := by have := HB0.out.size; have := HB5.out.size; omega
    clear hB HB0 HX0 HS0 HB5 HX5 HS5 HB6 HX6 HS6
    generalize w0.heap.size = b5 at *
    generalize w5.heap.size = b6 at *
    have HLT6 := Lib.hid hl6
    clear hl6
    have CWA := Lib.hid (fun w' (hp : PG w base g cap m S L n x len w.heap.size b5 b6 w') => (CW.out w' hp.row).mono fun e w'' h2 => (show e = _ ∧ PG w base g cap m S L n x len w.heap.size b5 b6 w'' from ⟨h2.1, hp.next h2.2⟩))
    refine wp_region_cls (PG w base g cap m S L n x len w.heap.size b5 b6) (by kernel_rfl) (by kernel_rfl) (hPG.next (Below.refl _ _).drew) ?_
    refine wq_step (fun K hK => ?_)
    rw [if_pos (by rfl)]
    refine ⟨?_, fun w hSw => ?_, hK _ ?_⟩
    rotate_left
    · clear hSw
      go_simp
      try with_reducible rfl
    clear hK K
    try simp only [Act.put, List.setIfInBounds_toArray, List.set_cons_zero, List.set_cons_succ]
    refine wq_step (fun K hK => ?_)
    rw [if_pos (by rfl)]
    refine ⟨?_, fun w hSw => ?_, hK _ ?_⟩
    rotate_left
    · clear hSw
      go_simp
      try with_reducible rfl
    clear hK K
    try simp only [Act.put, List.setIfInBounds_toArray, List.set_cons_zero, List.set_cons_succ]
    refine wq_step (fun K hK => ?_)
    rw [if_pos (by rfl)]
    refine ⟨?_, fun w hSw => ?_, hK _ ?_⟩
    rotate_left
    · clear hSw
      go_simp
      try with_reducible rfl
    clear hK K
    try simp only [Act.put, List.setIfInBounds_toArray, List.set_cons_zero, List.set_cons_succ]
    refine wq_step (fun K hK => ?_)
    rw [if_pos (by rfl)]
    refine ⟨?_, fun w hSw => ?_, hK _ ?_⟩
    rotate_left
    · clear hSw
      go_simp
      try with_reducible rfl
    clear hK K
    try simp only [Act.put, List.setIfInBounds_toArray, List.set_cons_zero, List.set_cons_succ]
    refine wq_step (fun K hK => ?_)
    rw [if_pos (by rfl)]
    refine ⟨?_, fun w hSw => ?_, hK _ ?_⟩
    rotate_left
    · clear hSw
      go_simp
      try with_reducible rfl
    clear hK K
    try simp only [Act.put, List.setIfInBounds_toArray, List.set_cons_zero, List.set_cons_succ]
    refine wq_step (fun K hK => ?_)
    rw [if_pos (by rfl)]
    refine ⟨?_, fun w hSw => ?_, hK _ ?_⟩
    rotate_left
    · obtain ⟨c0, c1, x45⟩ := hSw.facts
      go_simp
      try with_reducible rfl
    clear hK K
    try simp only [Act.put, List.setIfInBounds_toArray, List.set_cons_zero, List.set_cons_succ]
    refine wq_step (fun K hK => ?_)
    rw [if_pos (by rfl)]
    refine ⟨?_, fun w hSw => ?_, hK _ ?_⟩
    rotate_left
    · clear hSw
      go_simp
      try with_reducible rfl
    clear hK K
    try simp only [Act.put, List.setIfInBounds_toArray, List.set_cons_zero, List.set_cons_succ]
    refine wq_step (fun K hK => ?_)
    rw [if_pos (by rfl)]
    refine ⟨?_, fun w hSw => ?_, hK _ ?_⟩
    rotate_left
    · clear hSw
      go_simp
      try with_reducible rfl
    clear hK K
    try simp only [Act.put, List.setIfInBounds_toArray, List.set_cons_zero, List.set_cons_succ]
    refine wq_step (fun K hK => ?_)
    rw [if_pos (by rfl)]
    refine ⟨?_, fun w hSw => ?_, hK _ ?_⟩
    rotate_left
    · clear hSw
      go_simp
      try with_reducible rfl
    clear hK K
    try simp only [Act.put, List.setIfInBounds_toArray, List.set_cons_zero, List.set_cons_succ]
    refine wq_step (fun K hK => ?_)
    rw [if_pos (by rfl)]
    refine ⟨?_, fun w hSw => ?_, hK _ ?_⟩
    rotate_left
    · clear hSw
      go_simp
      try with_reducible rfl
    clear hK K
    try simp only [Act.put, List.setIfInBounds_toArray, List.set_cons_zero, List.set_cons_succ]
    refine wq_step (fun K hK => ?_)
    rw [if_pos (by rfl)]
    refine ⟨?_, fun w hSw => ?_, hK _ ?_⟩
    rotate_left
    · obtain ⟨c0, c1, x45⟩ := hSw.facts
      go_simp
      try with_reducible rfl
    clear hK K
    try simp only [Act.put, List.setIfInBounds_toArray, List.set_cons_zero, List.set_cons_succ]
    refine wq_step (fun K hK => ?_)
    rw [if_pos (by rfl)]
    refine ⟨?_, fun w hSw => ?_, hK _ ?_⟩
    rotate_left
    · go_simp
      go_at_call 54
      with_reducible exact CWA.out w hSw
    clear hK K
    try simp only [Act.put, List.setIfInBounds_toArray, List.set_cons_zero, List.set_cons_succ]
    refine wq_step (fun K hK => ?_)
    rw [if_pos (by rfl)]
    refine ⟨?_, fun w hSw => ?_, hK _ ?_⟩
    rotate_left
    · clear hSw
      go_simp
      try with_reducible rfl
    clear hK K
    try simp only [Act.put, List.setIfInBounds_toArray, List.set_cons_zero, List.set_cons_succ]
    refine wq_step (fun K hK => ?_)
    rw [if_pos (by rfl)]
    refine ⟨?_, fun w hSw => ?_, hK _ ?_⟩
    rotate_left
    · obtain ⟨c0, c1, x45⟩ := hSw.facts
      go_simp
      try with_reducible rfl
    clear hK K
    try simp only [Act.put, List.setIfInBounds_toArray, List.set_cons_zero, List.set_cons_succ]
    refine wq_step (fun K hK => ?_)
    rw [if_pos (by rfl)]
    refine ⟨?_, fun w hSw => ?_, hK _ ?_⟩
    rotate_left
    · clear hSw
      go_simp
      try with_reducible rfl
    clear hK K
    try simp only [Act.put, List.setIfInBounds_toArray, List.set_cons_zero, List.set_cons_succ]
    refine wq_step (fun K hK => ?_)
    rw [if_pos (by rfl)]
    refine ⟨?_, fun w hSw => ?_, hK _ ?_⟩
    rotate_left
    · clear hSw
      go_simp
      try with_reducible rfl
    clear hK K
    try simp only [Act.put, List.setIfInBounds_toArray, List.set_cons_zero, List.set_cons_succ]
    refine wq_step (fun K hK => ?_)
    rw [if_pos (by rfl)]
    refine ⟨?_, fun w hSw => ?_, hK _ ?_⟩
    rotate_left
    · clear hSw
      go_simp
      try with_reducible rfl
    clear hK K
    try simp only [Act.put, List.setIfInBounds_toArray, List.set_cons_zero, List.set_cons_succ]
    refine wq_step (fun K hK => ?_)
    rw [if_pos (by rfl)]
    refine ⟨?_, fun w hSw => ?_, hK _ ?_⟩
    rotate_left
    · clear hSw
      go_simp
      try with_reducible rfl
    clear hK K
    try simp only [Act.put, List.setIfInBounds_toArray, List.set_cons_zero, List.set_cons_succ]
    refine wq_step (fun K hK => ?_)
    rw [if_pos (by rfl)]
    refine ⟨?_, fun w hSw => ?_, hK _ ?_⟩
    rotate_left
    · obtain ⟨c0, c1, x45⟩ := hSw.facts
      go_simp
      try with_reducible rfl
    clear hK K
    try simp only [Act.put, List.setIfInBounds_toArray, List.set_cons_zero, List.set_cons_succ]
    refine wq_step (fun K hK => ?_)
    rw [if_pos (by rfl)]
    refine ⟨?_, fun w hSw => ?_, hK _ ?_⟩
    rotate_left
    · clear hSw
      go_simp
      try with_reducible rfl
    clear hK K
    try simp only [Act.put, List.setIfInBounds_toArray, List.set_cons_zero, List.set_cons_succ]
    refine wq_step (fun K hK => ?_)
    rw [if_pos (by rfl)]
    refine ⟨?_, fun w hSw => ?_, hK _ ?_⟩
    rotate_left
    · clear hSw
      go_simp
      try with_reducible rfl
    clear hK K
    try simp only [Act.put, List.setIfInBounds_toArray, List.set_cons_zero, List.set_cons_succ]
    refine wq_step (fun K hK => ?_)
    rw [if_pos (by rfl)]
    refine ⟨?_, fun w hSw => ?_, hK _ ?_⟩
    rotate_left
    · clear hSw
      go_simp
      try with_reducible rfl
    clear hK K
    try simp only [Act.put, List.setIfInBounds_toArray, List.set_cons_zero, List.set_cons_succ]
    refine wq_step (fun K hK => ?_)
    rw [if_neg (Bool.eq_false_iff.1 (by rfl))]
    refine hK _ ?_
    clear hK K
    try simp only [Act.put, List.setIfInBounds_toArray, List.set_cons_zero, List.set_cons_succ]
    refine wq_step (fun K hK => ?_)
    rw [if_neg (Bool.eq_false_iff.1 (by rfl))]
    refine hK _ ?_
    clear hK K
    try simp only [Act.put, List.setIfInBounds_toArray, List.set_cons_zero, List.set_cons_succ]
    refine wq_step (fun K hK => ?_)
    rw [if_neg (Bool.eq_false_iff.1 (by rfl))]
    refine hK _ ?_
    clear hK K
    try simp only [Act.put, List.setIfInBounds_toArray, List.set_cons_zero, List.set_cons_succ]
    refine wq_step (fun K hK => ?_)
    rw [if_pos (by rfl)]
    refine ⟨?_, fun w hSw => ?_, hK _ ?_⟩
    rotate_left
    · clear hSw
      go_simp
      try with_reducible rfl
    clear hK K
    try simp only [Act.put, List.setIfInBounds_toArray, List.set_cons_zero, List.set_cons_succ]
    refine wq_nil ?_
    intro w9 hHeld
    clear hPG CWA CW
    obtain ⟨c0, c1, x45⟩ := hHeld.facts
    obtain ⟨k0, k1, f0, f1⟩ := ref_facts hHeld.box6
    have HP := Lib.hid hHeld
    clear hHeld
    go_wp2
    (try simp only [Exit.inBlock, Exit.then])
    refine bodyPost_ret (res_row_tmp rfl _ _ _ _ _ _ _ rfl (ref_box2 HP.out.box6 _ _) Try.underlying89 rfl rfl) rfl ?_
    exact ⟨rfl, (HP.out.below.setCell HLT6.out _).setCell HLT6.out _⟩
  · have d0_0 : decide (c < 0) = false := decide_eq_false (by omega)
    have d1_0 : decide ((n : Int) ≤ c) = false := decide_eq_false (by omega)
    have d2_0 : decide ((m : Int) ≤ (t : Int)) = false := decide_eq_false (by omega)
    have d2_1 : decide (m ≤ t) = false := decide_eq_false (by omega)
    have d3_0 : decide (len < 1) = false := decide_eq_false (by omega)
    have d4_0 : decide (9216 < len) = true := decide_eq_true (by omega)
    go_enter Try.func50, Try.ntmps50
    go_upto_region 1 with (first
      | ((with_reducible refine arm_box 3 0 89 #[.slice (some ⟨g, 0, none⟩) n cap, .int .i64 (m : Nat)] ?_ ?_); rfl; intro w0 HB0 HX0 HS0)
      | ((with_reducible refine arm_box 5 2 79 x ?_ ?_); rfl; intro w5 HB5 HX5 HS5)
      | ((with_reducible refine arm_alloc 6 89 #[.slice none 0 0, .int .i64 0] 2 (by kernel_rfl) ?_); intro w6 HB6 HX6 HS6))
    have hB := HB0.out.trans ((HB5.out.trans (HB6.out.mono HB5.out.size)).mono HB0.out.size)
    have hPG : PG w base g cap m S L n x len w.heap.size w0.heap.size w5.heap.size w6 := ⟨HH.out.below hB, keep_block HB6.out (keep_block HB5.out HX0.out), keep_block HB6.out HX5.out, HX6.out, HX45.out, hB⟩
    have hl6 : w.heap.size ≤ w5.heap.size := by have := HB0.out.size; have := HB5.out.size; omega
    clear hB HB0 HX0 HS0 HB5 HX5 HS5 HB6 HX6 HS6
    generalize w0.heap.size = b5 at *
    generalize w5.heap.size = b6 at *
    have HLT6 := Lib.hid hl6
    clear hl6
    have CWA := Lib.hid (fun w' (hp : PG w base g cap m S L n x len w.heap.size b5 b6 w') => (CW.out w' hp.row).mono fun e w'' h2 => (show e = _ ∧ PG w base g cap m S L n x len w.heap.size b5 b6 w'' from ⟨h2.1, hp.next h2.2⟩))
    refine wp_region_cls (PG w base g cap m S L n x len w.heap.size b5 b6) (by kernel_rfl) (by kernel_rfl) (hPG.next (Below.refl _ _).drew) ?_
    refine wq_step (fun K hK => ?_)
    rw [if_pos (by rfl)]
    refine ⟨?_, fun w hSw => ?_, hK _ ?_⟩
    rotate_left
    · clear hSw
      go_simp
      try with_reducible rfl
    clear hK K
    try simp only [Act.put, List.setIfInBounds_toArray, List.set_cons_zero, List.set_cons_succ]
    refine wq_step (fun K hK => ?_)
    rw [if_pos (by rfl)]
    refine ⟨?_, fun w hSw => ?_, hK _ ?_⟩
    rotate_left
    · clear hSw
      go_simp
      try with_reducible rfl
    clear hK K
    try simp only [Act.put, List.setIfInBounds_toArray, List.set_cons_zero, List.set_cons_succ]
    refine wq_step (fun K hK => ?_)
    rw [if_pos (by rfl)]
    refine ⟨?_, fun w hSw => ?_, hK _ ?_⟩
    rotate_left
    · clear hSw
      go_simp
      try with_reducible rfl
    clear hK K
    try simp only [Act.put, List.setIfInBounds_toArray, List.set_cons_zero, List.set_cons_succ]
    refine wq_step (fun K hK => ?_)
    rw [if_pos (by rfl)]
    refine ⟨?_, fun w hSw => ?_, hK _ ?_⟩
    rotate_left
    · clear hSw
      go_simp
      try with_reducible rfl
    clear hK K
    try simp only [Act.put, List.setIfInBounds_toArray, List.set_cons_zero, List.set_cons_succ]
    refine wq_step (fun K hK => ?_)
    rw [if_pos (by rfl)]
    refine ⟨?_, fun w hSw => ?_, hK _ ?_⟩
    rotate_left
    · clear hSw
      go_simp
      try with_reducible rfl
    clear hK K
    try simp only [Act.put, List.setIfInBounds_toArray, List.set_cons_zero, List.set_cons_succ]
    refine wq_step (fun K hK => ?_)
    rw [if_pos (by rfl)]
    refine ⟨?_, fun w hSw => ?_, hK _ ?_⟩
    rotate_left
    · obtain ⟨c0, c1, x45⟩ := hSw.facts
      go_simp
      try with_reducible rfl
    clear hK K
    try simp only [Act.put, List.setIfInBounds_toArray, List.set_cons_zero, List.set_cons_succ]
    refine wq_step (fun K hK => ?_)
    rw [if_pos (by rfl)]
    refine ⟨?_, fun w hSw => ?_, hK _ ?_⟩
    rotate_left
    · clear hSw
      go_simp
      try with_reducible rfl
    clear hK K
    try simp only [Act.put, List.setIfInBounds_toArray, List.set_cons_zero, List.set_cons_succ]
    refine wq_step (fun K hK => ?_)
    rw [if_pos (by rfl)]
    refine ⟨?_, fun w hSw => ?_, hK _ ?_⟩
    rotate_left
    · clear hSw
      go_simp
      try with_reducible rfl
    clear hK K
    try simp only [Act.put, List.setIfInBounds_toArray, List.set_cons_zero, List.set_cons_succ]
    refine wq_step (fun K hK => ?_)
    rw [if_pos (by rfl)]
    refine ⟨?_, fun w hSw => ?_, hK _ ?_⟩
    rotate_left
    · clear hSw
      go_simp
      try with_reducible rfl
    clear hK K
    try simp only [Act.put, List.setIfInBounds_toArray, List.set_cons_zero, List.set_cons_succ]
    refine wq_step (fun K hK => ?_)
    rw [if_pos (by rfl)]
    refine ⟨?_, fun w hSw => ?_, hK _ ?_⟩
    rotate_left
    · clear hSw
      go_simp
      try with_reducible rfl
    clear hK K
    try simp only [Act.put, List.setIfInBounds_toArray, List.set_cons_zero, List.set_cons_succ]
    refine wq_step (fun K hK => ?_)
    rw [if_pos (by rfl)]
    refine ⟨?_, fun w hSw => ?_, hK _ ?_⟩
    rotate_left
    · obtain ⟨c0, c1, x45⟩ := hSw.facts
      go_simp
      try with_reducible rfl
    clear hK K
    try simp only [Act.put, List.setIfInBounds_toArray, List.set_cons_zero, List.set_cons_succ]
    refine wq_step (fun K hK => ?_)
    rw [if_pos (by rfl)]
    refine ⟨?_, fun w hSw => ?_, hK _ ?_⟩
    rotate_left
    · go_simp
      go_at_call 54
      with_reducible exact CWA.out w hSw
    clear hK K
    try simp only [Act.put, List.setIfInBounds_toArray, List.set_cons_zero, List.set_cons_succ]
    refine wq_step (fun K hK => ?_)
    rw [if_pos (by rfl)]
    refine ⟨?_, fun w hSw => ?_, hK _ ?_⟩
    rotate_left
    · clear hSw
      go_simp
      try with_reducible rfl
    clear hK K
    try simp only [Act.put, List.setIfInBounds_toArray, List.set_cons_zero, List.set_cons_succ]
    refine wq_step (fun K hK => ?_)
    rw [if_pos (by rfl)]
    refine ⟨?_, fun w hSw => ?_, hK _ ?_⟩
    rotate_left
    · obtain ⟨c0, c1, x45⟩ := hSw.facts
      go_simp
      try with_reducible rfl
    clear hK K
    try simp only [Act.put, List.setIfInBounds_toArray, List.set_cons_zero, List.set_cons_succ]
    refine wq_step (fun K hK => ?_)
    rw [if_pos (by rfl)]
    refine ⟨?_, fun w hSw => ?_, hK _ ?_⟩
    rotate_left
    · clear hSw
      go_simp
      try with_reducible rfl
    clear hK K
    try simp only [Act.put, List.setIfInBounds_toArray, List.set_cons_zero, List.set_cons_succ]
    refine wq_step (fun K hK => ?_)
    rw [if_pos (by rfl)]
    refine ⟨?_, fun w hSw => ?_, hK _ ?_⟩
    rotate_left
    · clear hSw
      go_simp
      try with_reducible rfl
    clear hK K
    try simp only [Act.put, List.setIfInBounds_toArray, List.set_cons_zero, List.set_cons_succ]
    refine wq_step (fun K hK => ?_)
    rw [if_pos (by rfl)]
    refine ⟨?_, fun w hSw => ?_, hK _ ?_⟩
    rotate_left
    · clear hSw
      go_simp
      try with_reducible rfl
    clear hK K
    try simp only [Act.put, List.setIfInBounds_toArray, List.set_cons_zero, List.set_cons_succ]
    refine wq_step (fun K hK => ?_)
    rw [if_pos (by rfl)]
    refine ⟨?_, fun w hSw => ?_, hK _ ?_⟩
    rotate_left
    · clear hSw
      go_simp
      try with_reducible rfl
    clear hK K
    try simp only [Act.put, List.setIfInBounds_toArray, List.set_cons_zero, List.set_cons_succ]
    refine wq_step (fun K hK => ?_)
    rw [if_pos (by rfl)]
    refine ⟨?_, fun w hSw => ?_, hK _ ?_⟩
    rotate_left
    · obtain ⟨c0, c1, x45⟩ := hSw.facts
      go_simp
      try with_reducible rfl
    clear hK K
    try simp only [Act.put, List.setIfInBounds_toArray, List.set_cons_zero, List.set_cons_succ]
    refine wq_step (fun K hK => ?_)
    rw [if_pos (by rfl)]
    refine ⟨?_, fun w hSw => ?_, hK _ ?_⟩
    rotate_left
    · clear hSw
      go_simp
      try with_reducible rfl
    clear hK K
    try simp only [Act.put, List.setIfInBounds_toArray, List.set_cons_zero, List.set_cons_succ]
    refine wq_step (fun K hK => ?_)
    rw [if_pos (by rfl)]
    refine ⟨?_, fun w hSw => ?_, hK _ ?_⟩
    rotate_left
    · clear hSw
      go_simp
      try with_reducible rfl
    clear hK K
    try simp only [Act.put, List.setIfInBounds_toArray, List.set_cons_zero, List.set_cons_succ]
    refine wq_step (fun K hK => ?_)
    rw [if_pos (by rfl)]
    refine ⟨?_, fun w hSw => ?_, hK _ ?_⟩
    rotate_left
    · clear hSw
      go_simp
      try with_reducible rfl
    clear hK K
    try simp only [Act.put, List.setIfInBounds_toArray, List.set_cons_zero, List.set_cons_succ]
    refine wq_step (fun K hK => ?_)
    rw [if_pos (by rfl)]
    refine ⟨?_, fun w hSw => ?_, hK _ ?_⟩
    rotate_left
    · clear hSw
      go_simp
      try with_reducible rfl
    clear hK K
    try simp only [Act.put, List.setIfInBounds_toArray, List.set_cons_zero, List.set_cons_succ]
    refine wq_step (fun K hK => ?_)
    rw [if_pos (by rfl)]
    refine ⟨?_, fun w hSw => ?_, hK _ ?_⟩
    rotate_left
    · obtain ⟨c0, c1, x45⟩ := hSw.facts
      go_simp
      try with_reducible rfl
    clear hK K
    try simp only [Act.put, List.setIfInBounds_toArray, List.set_cons_zero, List.set_cons_succ]
    refine wq_step (fun K hK => ?_)
    rw [if_pos (by rfl)]
    refine ⟨?_, fun w hSw => ?_, hK _ ?_⟩
    rotate_left
    · clear hSw
      go_simp
      try with_reducible rfl
    clear hK K
    try simp only [Act.put, List.setIfInBounds_toArray, List.set_cons_zero, List.set_cons_succ]
    refine wq_step (fun K hK => ?_)
    rw [if_pos (by rfl)]
    refine ⟨?_, fun w hSw => ?_, hK _ ?_⟩
    rotate_left
    · clear hSw
      go_simp
      try with_reducible rfl
    clear hK K
    try simp only [Act.put, List.setIfInBounds_toArray, List.set_cons_zero, List.set_cons_succ]
    refine wq_nil ?_
    intro w9 hHeld
    clear hPG CWA CW
    obtain ⟨c0, c1, x45⟩ := hHeld.facts
    obtain ⟨k0, k1, f0, f1⟩ := ref_facts hHeld.box6
    have HP := Lib.hid hHeld
    clear hHeld
    go_wp2
    (try simp only [Exit.inBlock, Exit.then])
    refine bodyPost_ret (res_row_tmp rfl _ _ _ _ _ _ _ rfl (ref_box2 HP.out.box6 _ _) Try.underlying89 rfl rfl) rfl ?_
    exact ⟨rfl, (HP.out.below.setCell HLT6.out _).setCell HLT6.out _⟩
end
end Go.Proofs.Ytgcfiiidhihkaaa.C
