/- The walk of chain.New. -/
import Derived.Test.YtgcfiiidhihkaaaChainW
namespace Go.Proofs.Ytgcfiiidhihkaaa.C.CH
open Go.RowKit
set_option linter.unusedVariables false
theorem made_rep (z : List Value) (m : Nat) (hz : z.length = m) (hm : 0 < m) : ∀ n : Nat, (madeCells z.toArray (n * m)).toList = (List.replicate n z).flatten := by
  intro n
  unfold madeCells
  rw [Array.toList_map, Array.toList_range]
  induction n with
  | zero => simp
  | succ n ih =>
    rw [Nat.succ_mul, List.range_add, List.map_append, ih, List.replicate_succ', List.flatten_append]
    congr 1
    simp only [List.flatten_cons, List.flatten_nil, List.append_nil, List.map_map]
    apply List.ext_getElem?
    intro j
    by_cases hj : j < m
    · simp only [List.getElem?_map, List.getElem?_range hj, Option.map_some, Function.comp]
      have : (n * m + j) % z.toArray.size = j := by
        rw [List.size_toArray, hz, Nat.mul_comm, Nat.mul_add_mod, Nat.mod_eq_of_lt hj]
      rw [this]
      have hjz : j < z.length := by omega
      rw [List.getElem?_eq_getElem hjz]
      simp [hjz]
    · rw [List.getElem?_eq_none (by simp; omega), List.getElem?_eq_none (by omega)]
theorem cLn_rep (n : Nat) (x : Ln) : cLn (List.replicate n x) = (List.replicate n [Value.int .i64 x.first, .int .i64 x.last, .int .i64 x.n]).flatten := by
  induction n with
  | zero => rfl
  | succ n ih => rw [List.replicate_succ, List.replicate_succ, List.flatten_cons, ← ih]; rfl
theorem cLk_rep (n : Nat) (x : Lk) : cLk (List.replicate n x) = (List.replicate n [Value.int .i64 x.line, .int .i64 x.next]).flatten := by
  induction n with
  | zero => rfl
  | succ n ih => rw [List.replicate_succ, List.replicate_succ, List.flatten_cons, ← ih]; rfl
theorem make_ln (n : Nat) (hn : n ≤ 65536) (W : World) : (Instr.makeSlice 110 (.int .i64 (n : Int)) (.int .i64 (n : Int))).run Try.prog W = .ok (.slice (some ⟨W.heap.size, 0, none⟩) n n) (W.alloc (.cells (cLn (List.replicate n ⟨0, 0, 0⟩)).toArray 115)) := by
  obtain ⟨i0, hi, hz0, hz1, hz2⟩ := info_parts (show (Try.prog.info? 115).map (fun i => (i.zero, i.size, i.bytes)) = some (some (.agg #[Value.int .i64 0, .int .i64 0, .int .i64 0]), 3, 24) by kernel_rfl)
  have hr := run_make (P := Try.prog) W 110 115 i0 (.agg #[Value.int .i64 0, .int .i64 0, .int .i64 0]) Try.underlying110 hi hz0 .i64 .i64 n n (by omega) (by omega) (by rw [hz2]; omega) (by omega)
  simp only [Int.toNat_natCast] at hr
  rw [hr, hz1]
  have e : madeCells (Value.agg #[Value.int .i64 0, .int .i64 0, .int .i64 0]).cells (n * 3) = (cLn (List.replicate n ⟨0, 0, 0⟩)).toArray := by
    apply Array.toList_inj.1
    rw [List.toList_toArray, cLn_rep]
    exact made_rep [Value.int .i64 0, .int .i64 0, .int .i64 0] 3 rfl (by omega) n
  rw [e]
theorem make_lk (n : Nat) (hn : n ≤ 65536) (W : World) : (Instr.makeSlice 111 (.int .i64 (n : Int)) (.int .i64 (n : Int))).run Try.prog W = .ok (.slice (some ⟨W.heap.size, 0, none⟩) n n) (W.alloc (.cells (cLk (List.replicate n ⟨0, 0⟩)).toArray 117)) := by
  obtain ⟨i0, hi, hz0, hz1, hz2⟩ := info_parts (show (Try.prog.info? 117).map (fun i => (i.zero, i.size, i.bytes)) = some (some (.agg #[Value.int .i64 0, .int .i64 0]), 2, 16) by kernel_rfl)
  have hr := run_make (P := Try.prog) W 111 117 i0 (.agg #[Value.int .i64 0, .int .i64 0]) Try.underlying111 hi hz0 .i64 .i64 n n (by omega) (by omega) (by rw [hz2]; omega) (by omega)
  simp only [Int.toNat_natCast] at hr
  rw [hr, hz1]
  have e : madeCells (Value.agg #[Value.int .i64 0, .int .i64 0]).cells (n * 2) = (cLk (List.replicate n ⟨0, 0⟩)).toArray := by
    apply Array.toList_inj.1
    rw [List.toList_toArray, cLk_rep]
    exact made_rep [Value.int .i64 0, .int .i64 0] 2 rfl (by omega) n
  rw [e]
/-- The first k of n rows are x, the others y. -/
def part {α : Type} (n k : Nat) (x y : α) : List α := (List.range n).map fun i => if i < k then x else y
theorem part_length {α : Type} (n k : Nat) (x y : α) : (part n k x y).length = n := by simp [part]
theorem part_zero {α : Type} (n : Nat) (x y : α) : List.replicate n y = part n 0 x y := by
  apply List.ext_getElem?
  intro i
  by_cases h : i < n <;> simp [part, h]
theorem part_all {α : Type} (n : Nat) (x y : α) : part n n x y = List.replicate n x := by
  apply List.ext_getElem?
  intro i
  by_cases h : i < n <;> simp [part, h]
theorem part_at {α : Type} {n k : Nat} (x y : α) (h : k < n) : (part n k x y)[k]? = some y := by simp [part, h]
theorem part_step {α : Type} {n k : Nat} (x y : α) (h : k < n) : (part n k x y).set k x = part n (k + 1) x y := by
  apply List.ext_getElem?
  intro i
  by_cases e : i = k
  · subst e
    rw [List.getElem?_set_self (by rw [part_length]; exact h)]
    simp [part, h]
  · rw [List.getElem?_set_ne (by omega)]
    by_cases hi : i < n
    · simp only [part, List.getElem?_map, List.getElem?_range hi, Option.map_some]
      congr 1
      by_cases h1 : i < k
      · rw [if_pos h1, if_pos (by omega)]
      · rw [if_neg h1, if_neg (by omega)]
    · rw [List.getElem?_eq_none (by rw [part_length]; omega), List.getElem?_eq_none (by rw [part_length]; omega)]
set_option maxRecDepth 100000 in
set_option maxHeartbeats 1000000 in
theorem new_ok (n m : Nat) (w : World) (h1 : 1 ≤ n) (h2 : n ≤ 129) (h3 : 1 ≤ m) (h4 : m ≤ 4096) :
    Calls Try.prog 27 #[.int .i64 (n : Nat), .int .i64 (m : Nat)] w fun e w' => ∃ pb b1 b2 : Nat, e = .returned (.tuple #[.pointer (some ⟨pb, 0, none⟩), .int .i64 0]) ∧ w.heap.size ≤ pb ∧ w.heap.size ≤ b1 ∧ w.heap.size ≤ b2 ∧ CAt w' pb b1 b2 (List.replicate n ⟨-1, -1, 0⟩) (List.replicate m ⟨-1, -1⟩) ∧ Below w.heap.size w w' := by
  have hm1 := make_ln n (by omega)
  have hm2 := make_lk m (by omega)
  have d1 : decide (n < 1) = false := by simp; omega
  have d2 : decide (129 < n) = false := by simp; omega
  have d3 : decide (m < 1) = false := by simp; omega
  have d4 : decide (4096 < m) = false := by simp; omega
  go_enter Try.func27, Try.ntmps27
  go_wp2_with fail
  go_region
  · clear hm1 hm2
    have h0 : CAt (((w.alloc (Obj.cells (cLn (List.replicate n ⟨0, 0, 0⟩)).toArray 115)).alloc (Obj.cells (cLk (List.replicate m ⟨0, 0⟩)).toArray 117)).alloc (Obj.cells #[.slice (some ⟨w.heap.size, 0, none⟩) n n, .slice (some ⟨(w.heap.size + 1), 0, none⟩) m m] 113)).drew (w.heap.size + 1 + 1) w.heap.size (w.heap.size + 1) (List.replicate n ⟨0, 0, 0⟩) (List.replicate m ⟨0, 0⟩) := by
      refine ⟨?_, (heap_alloc_old _ _ (by simp <;> omega)).trans (heap_alloc2_old w _ _), (heap_alloc_old _ _ (by simp <;> omega)).trans (heap_alloc2_new w _ _)⟩
      have := heap_alloc_new ((w.alloc (Obj.cells (cLn (List.replicate n ⟨0, 0, 0⟩)).toArray 115)).alloc (Obj.cells (cLk (List.replicate m ⟨0, 0⟩)).toArray 117)) (Obj.cells #[.slice (some ⟨w.heap.size, 0, none⟩) n n, .slice (some ⟨(w.heap.size + 1), 0, none⟩) m m] 113)
      have e : ((w.alloc (Obj.cells (cLn (List.replicate n ⟨0, 0, 0⟩)).toArray 115)).alloc (Obj.cells (cLk (List.replicate m ⟨0, 0⟩)).toArray 117)).heap.size = w.heap.size + 1 + 1 := by simp
      rw [e] at this
      have hz : (List.replicate n (⟨0, 0, 0⟩ : Ln)).length = n ∧ (List.replicate m (⟨0, 0⟩ : Lk)).length = m := by simp
      rw [hz.1, hz.2]
      exact this
    have hB : Below w.heap.size w (((w.alloc (Obj.cells (cLn (List.replicate n ⟨0, 0, 0⟩)).toArray 115)).alloc (Obj.cells (cLk (List.replicate m ⟨0, 0⟩)).toArray 117)).alloc (Obj.cells #[.slice (some ⟨w.heap.size, 0, none⟩) n n, .slice (some ⟨(w.heap.size + 1), 0, none⟩) m m] 113)).drew := (((Below.refl _ _).alloc (Nat.le_refl _) _).alloc (by simp) _).alloc (by simp; omega) _ |>.drew
    have hb : Hid (w.heap.size ≤ w.heap.size + 1 + 1 ∧ w.heap.size ≤ w.heap.size ∧ w.heap.size ≤ (w.heap.size + 1)) := ⟨by omega, by omega, by omega⟩
    generalize (((w.alloc (Obj.cells (cLn (List.replicate n ⟨0, 0, 0⟩)).toArray 115)).alloc (Obj.cells (cLk (List.replicate m ⟨0, 0⟩)).toArray 117)).alloc (Obj.cells #[.slice (some ⟨w.heap.size, 0, none⟩) n n, .slice (some ⟨(w.heap.size + 1), 0, none⟩) m m] 113)).drew = w2 at h0 hB ⊢
    generalize w.heap.size + 1 + 1 = pb at h0 hb ⊢
    generalize w.heap.size + 1 = bx at h0 hb ⊢
    rw [part_zero n ⟨-1, -1, 0⟩] at h0
    have c0 := h0.c0
    rw [part_length] at c0
    have H0 := Lib.hid h0
    clear h0
    go_wp2_with fail
    go_loopw [34] (fun c wr => ∃ k : Nat, k ≤ n ∧ c = .int .i64 (k : Nat) ∧ CAt wr pb w.heap.size bx (part n k ⟨-1, -1, 0⟩ ⟨0, 0, 0⟩) (List.replicate m ⟨0, 0⟩) ∧ Below w.heap.size w wr) (fun c _ => n - (intOf c).toNat)
    case atStart => exact ⟨0, by omega, rfl, H0.out, hB⟩
    case round =>
      obtain ⟨k, hk, rfl, hC, hBr⟩ := hrel
      by_cases hlt : k < n
      · have hx := part_at (⟨-1, -1, 0⟩ : Ln) ⟨0, 0, 0⟩ hlt
        have e0 := hC.c0
        rw [part_length] at e0
        obtain ⟨a0, a1, a2⟩ := hC.ln_ hx
        have f0 := hC.f1 (k * 3)
        have f1 := hC.f1 (k * 3 + 1)
        have f2 := hC.f1 (k * 3 + 2)
        have g1 := hC.setFirst hx (-1)
        have g2 := g1.setLast (List.getElem?_set_self (lt_of_some hx)) (-1)
        have g3 := g2.setN (List.getElem?_set_self (by rw [List.length_set]; exact lt_of_some hx)) 0
        rw [List.set_set, List.set_set] at g3
        have G : Hid (CAt (((wr.setCell ⟨w.heap.size, k * 3, none⟩ (.int .i64 (-1))).setCell ⟨w.heap.size, k * 3 + 1, none⟩ (.int .i64 (-1))).setCell ⟨w.heap.size, k * 3 + 2, none⟩ (.int .i64 0)) pb w.heap.size bx (part n (k + 1) ⟨-1, -1, 0⟩ ⟨0, 0, 0⟩) (List.replicate m ⟨0, 0⟩)) := by
          rw [← part_step _ _ hlt]
          exact g3
        have hb1 := hb.out.2.1
        clear hC hx g1 g2 g3
        go_wp2
        go_roundw
        case rel => exact ⟨k + 1, by omega, by go_num, G.out, ((hBr.setCell hb1 _).setCell hb1 _).setCell hb1 _⟩
        case measure => simp [intOf]; omega
      · obtain rfl : k = n := by omega
        rw [part_all, part_zero m ⟨-1, -1⟩] at hC
        have c1 := hC.c1
        rw [part_length] at c1
        have H1 := Lib.hid hC
        clear hC H0 c0
        go_wp2_with fail
        obtain ⟨wo, rfl⟩ : ∃ wo : World, wo = wr := ⟨_, rfl⟩
        go_loopw [50] (fun c wq => ∃ j : Nat, j ≤ m ∧ c = .int .i64 (j : Nat) ∧ CAt wq pb w.heap.size bx (List.replicate k ⟨-1, -1, 0⟩) (part m j ⟨-1, -1⟩ ⟨0, 0⟩) ∧ Below w.heap.size w wq) (fun c _ => m - (intOf c).toNat)
        case atStart => exact ⟨0, by omega, rfl, H1.out, hBr⟩
        case round =>
          obtain ⟨j, hj, rfl, hC, hBq⟩ := hrel
          by_cases hlt : j < m
          · have hx := part_at (⟨-1, -1⟩ : Lk) ⟨0, 0⟩ hlt
            have e0 := hC.c1
            rw [part_length] at e0
            obtain ⟨a0, a1⟩ := hC.lk_ hx
            have f0 := hC.f2 (j * 2)
            have f1 := hC.f2 (j * 2 + 1)
            have g1 := hC.setLine hx (-1)
            have g2 := g1.setNext (List.getElem?_set_self (lt_of_some hx)) (-1)
            rw [List.set_set] at g2
            have G : Hid (CAt ((wr.setCell ⟨bx, j * 2, none⟩ (.int .i64 (-1))).setCell ⟨bx, j * 2 + 1, none⟩ (.int .i64 (-1))) pb w.heap.size bx (List.replicate k ⟨-1, -1, 0⟩) (part m (j + 1) ⟨-1, -1⟩ ⟨0, 0⟩)) := by
              rw [← part_step _ _ hlt]
              exact g2
            have hb2 := hb.out.2.2
            clear hC hx g1 g2
            go_wp2
            go_roundw
            case rel => exact ⟨j + 1, by omega, by go_num, G.out, (hBq.setCell hb2 _).setCell hb2 _⟩
            case measure => simp [intOf]; omega
          · obtain rfl : j = m := by omega
            rw [part_all] at hC
            have H2 := Lib.hid hC
            clear hC H1 c1
            go_wp2
            go_ret2
            exact ⟨pb, _, _, rfl, hb.out.1, hb.out.2.1, hb.out.2.2, H2.out, hBq⟩
  · clear hm1 hm2
    have h0 : CAt (((w.alloc (Obj.cells (cLk (List.replicate m ⟨0, 0⟩)).toArray 117)).alloc (Obj.cells (cLn (List.replicate n ⟨0, 0, 0⟩)).toArray 115)).alloc (Obj.cells #[.slice (some ⟨(w.heap.size + 1), 0, none⟩) n n, .slice (some ⟨w.heap.size, 0, none⟩) m m] 113)).drew (w.heap.size + 1 + 1) (w.heap.size + 1) w.heap.size (List.replicate n ⟨0, 0, 0⟩) (List.replicate m ⟨0, 0⟩) := by
      refine ⟨?_, (heap_alloc_old _ _ (by simp <;> omega)).trans (heap_alloc2_new w _ _), (heap_alloc_old _ _ (by simp <;> omega)).trans (heap_alloc2_old w _ _)⟩
      have := heap_alloc_new ((w.alloc (Obj.cells (cLk (List.replicate m ⟨0, 0⟩)).toArray 117)).alloc (Obj.cells (cLn (List.replicate n ⟨0, 0, 0⟩)).toArray 115)) (Obj.cells #[.slice (some ⟨(w.heap.size + 1), 0, none⟩) n n, .slice (some ⟨w.heap.size, 0, none⟩) m m] 113)
      have e : ((w.alloc (Obj.cells (cLk (List.replicate m ⟨0, 0⟩)).toArray 117)).alloc (Obj.cells (cLn (List.replicate n ⟨0, 0, 0⟩)).toArray 115)).heap.size = w.heap.size + 1 + 1 := by simp
      rw [e] at this
      have hz : (List.replicate n (⟨0, 0, 0⟩ : Ln)).length = n ∧ (List.replicate m (⟨0, 0⟩ : Lk)).length = m := by simp
      rw [hz.1, hz.2]
      exact this
    have hB : Below w.heap.size w (((w.alloc (Obj.cells (cLk (List.replicate m ⟨0, 0⟩)).toArray 117)).alloc (Obj.cells (cLn (List.replicate n ⟨0, 0, 0⟩)).toArray 115)).alloc (Obj.cells #[.slice (some ⟨(w.heap.size + 1), 0, none⟩) n n, .slice (some ⟨w.heap.size, 0, none⟩) m m] 113)).drew := (((Below.refl _ _).alloc (Nat.le_refl _) _).alloc (by simp) _).alloc (by simp; omega) _ |>.drew
    have hb : Hid (w.heap.size ≤ w.heap.size + 1 + 1 ∧ w.heap.size ≤ (w.heap.size + 1) ∧ w.heap.size ≤ w.heap.size) := ⟨by omega, by omega, by omega⟩
    generalize (((w.alloc (Obj.cells (cLk (List.replicate m ⟨0, 0⟩)).toArray 117)).alloc (Obj.cells (cLn (List.replicate n ⟨0, 0, 0⟩)).toArray 115)).alloc (Obj.cells #[.slice (some ⟨(w.heap.size + 1), 0, none⟩) n n, .slice (some ⟨w.heap.size, 0, none⟩) m m] 113)).drew = w2 at h0 hB ⊢
    generalize w.heap.size + 1 + 1 = pb at h0 hb ⊢
    generalize w.heap.size + 1 = bx at h0 hb ⊢
    rw [part_zero n ⟨-1, -1, 0⟩] at h0
    have c0 := h0.c0
    rw [part_length] at c0
    have H0 := Lib.hid h0
    clear h0
    go_wp2_with fail
    go_loopw [34] (fun c wr => ∃ k : Nat, k ≤ n ∧ c = .int .i64 (k : Nat) ∧ CAt wr pb bx w.heap.size (part n k ⟨-1, -1, 0⟩ ⟨0, 0, 0⟩) (List.replicate m ⟨0, 0⟩) ∧ Below w.heap.size w wr) (fun c _ => n - (intOf c).toNat)
    case atStart => exact ⟨0, by omega, rfl, H0.out, hB⟩
    case round =>
      obtain ⟨k, hk, rfl, hC, hBr⟩ := hrel
      by_cases hlt : k < n
      · have hx := part_at (⟨-1, -1, 0⟩ : Ln) ⟨0, 0, 0⟩ hlt
        have e0 := hC.c0
        rw [part_length] at e0
        obtain ⟨a0, a1, a2⟩ := hC.ln_ hx
        have f0 := hC.f1 (k * 3)
        have f1 := hC.f1 (k * 3 + 1)
        have f2 := hC.f1 (k * 3 + 2)
        have g1 := hC.setFirst hx (-1)
        have g2 := g1.setLast (List.getElem?_set_self (lt_of_some hx)) (-1)
        have g3 := g2.setN (List.getElem?_set_self (by rw [List.length_set]; exact lt_of_some hx)) 0
        rw [List.set_set, List.set_set] at g3
        have G : Hid (CAt (((wr.setCell ⟨bx, k * 3, none⟩ (.int .i64 (-1))).setCell ⟨bx, k * 3 + 1, none⟩ (.int .i64 (-1))).setCell ⟨bx, k * 3 + 2, none⟩ (.int .i64 0)) pb bx w.heap.size (part n (k + 1) ⟨-1, -1, 0⟩ ⟨0, 0, 0⟩) (List.replicate m ⟨0, 0⟩)) := by
          rw [← part_step _ _ hlt]
          exact g3
        have hb1 := hb.out.2.1
        clear hC hx g1 g2 g3
        go_wp2
        go_roundw
        case rel => exact ⟨k + 1, by omega, by go_num, G.out, ((hBr.setCell hb1 _).setCell hb1 _).setCell hb1 _⟩
        case measure => simp [intOf]; omega
      · obtain rfl : k = n := by omega
        rw [part_all, part_zero m ⟨-1, -1⟩] at hC
        have c1 := hC.c1
        rw [part_length] at c1
        have H1 := Lib.hid hC
        clear hC H0 c0
        go_wp2_with fail
        obtain ⟨wo, rfl⟩ : ∃ wo : World, wo = wr := ⟨_, rfl⟩
        go_loopw [50] (fun c wq => ∃ j : Nat, j ≤ m ∧ c = .int .i64 (j : Nat) ∧ CAt wq pb bx w.heap.size (List.replicate k ⟨-1, -1, 0⟩) (part m j ⟨-1, -1⟩ ⟨0, 0⟩) ∧ Below w.heap.size w wq) (fun c _ => m - (intOf c).toNat)
        case atStart => exact ⟨0, by omega, rfl, H1.out, hBr⟩
        case round =>
          obtain ⟨j, hj, rfl, hC, hBq⟩ := hrel
          by_cases hlt : j < m
          · have hx := part_at (⟨-1, -1⟩ : Lk) ⟨0, 0⟩ hlt
            have e0 := hC.c1
            rw [part_length] at e0
            obtain ⟨a0, a1⟩ := hC.lk_ hx
            have f0 := hC.f2 (j * 2)
            have f1 := hC.f2 (j * 2 + 1)
            have g1 := hC.setLine hx (-1)
            have g2 := g1.setNext (List.getElem?_set_self (lt_of_some hx)) (-1)
            rw [List.set_set] at g2
            have G : Hid (CAt ((wr.setCell ⟨w.heap.size, j * 2, none⟩ (.int .i64 (-1))).setCell ⟨w.heap.size, j * 2 + 1, none⟩ (.int .i64 (-1))) pb bx w.heap.size (List.replicate k ⟨-1, -1, 0⟩) (part m (j + 1) ⟨-1, -1⟩ ⟨0, 0⟩)) := by
              rw [← part_step _ _ hlt]
              exact g2
            have hb2 := hb.out.2.2
            clear hC hx g1 g2
            go_wp2
            go_roundw
            case rel => exact ⟨j + 1, by omega, by go_num, G.out, (hBq.setCell hb2 _).setCell hb2 _⟩
            case measure => simp [intOf]; omega
          · obtain rfl : j = m := by omega
            rw [part_all] at hC
            have H2 := Lib.hid hC
            clear hC H1 c1
            go_wp2
            go_ret2
            exact ⟨pb, _, _, rfl, hb.out.1, hb.out.2.1, hb.out.2.2, H2.out, hBq⟩
end Go.Proofs.Ytgcfiiidhihkaaa.C.CH
