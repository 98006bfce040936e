/- The walk of chain.New. · Chains in memory, told by their lines: the contracts. · Chains in memory: the contracts of Push and Cut. · Chains in memory: the contract of Cut. · Chains in memory: what Push, Pop, Cut, At, Line, Len do at whatever numbers, told by plain functions on the lines. · Stores in memory: what turns, what belongs together; the walks of has, Push. · The walk of Push (stores): no room; done. · Plain: as many places are in lines as all lines together have. · The walk of Cut (stores). · The walks of At, Head, Pop, Len, Bytes, Free, New (stores). -/
import Derived.Test.YtpanmfdbdgecaaaGreatY2
import Derived.Deep.DeepCutAuto
import Derived.RegionTactic
import Derived.Deep.RegionHeld
import Derived.Deep.DeepMust
namespace Go.Proofs.YtpanmfdbdgecaaaGreat.C.CH
open Go.RowKit
set_option linter.unusedVariables false
theorem made_rep (z : List Value) (m : Nat) (hz : z.length = m) (hm : 0 < m) : ∀ n : Nat, (madeCells z.toArray (n * m)).toList = (List.replicate n z).flatten := by
  intro n
  unfold madeCells
  rw [Array.toList_map, Array.toList_range]
  induction n with
  | zero => simp
  | succ n ih =>
    rw [Nat.succ_mul, List.range_add, List.map_append, ih, List.replicate_succ', List.flatten_append]
    congr 1
    simp only [List.flatten_cons, List.flatten_nil, List.append_nil, List.map_map]
    apply List.ext_getElem?
    intro j
    by_cases hj : j < m
    · simp only [List.getElem?_map, List.getElem?_range hj, Option.map_some, Function.comp]
      have : (n * m + j) % z.toArray.size = j := by
        rw [List.size_toArray, hz, Nat.mul_comm, Nat.mul_add_mod, Nat.mod_eq_of_lt hj]
      rw [this]
      have hjz : j < z.length := by omega
      rw [List.getElem?_eq_getElem hjz]
      simp [hjz]
    · rw [List.getElem?_eq_none (by simp; omega), List.getElem?_eq_none (by omega)]
theorem cLn_rep (n : Nat) (x : Ln) : cLn (List.replicate n x) = (List.replicate n [Value.int .i64 x.first, .int .i64 x.last, .int .i64 x.n]).flatten := by
  induction n with
  | zero => rfl
  | succ n ih => rw [List.replicate_succ, List.replicate_succ, List.flatten_cons, ← ih]; rfl
theorem cLk_rep (n : Nat) (x : Lk) : cLk (List.replicate n x) = (List.replicate n [Value.int .i64 x.line, .int .i64 x.next]).flatten := by
  induction n with
  | zero => rfl
  | succ n ih => rw [List.replicate_succ, List.replicate_succ, List.flatten_cons, ← ih]; rfl
theorem make_ln (n : Nat) (hn : n ≤ 65536) (W : World) : (Instr.makeSlice 292 (.int .i64 (n : Int)) (.int .i64 (n : Int))).run Tryz.prog W = .ok (.slice (some ⟨W.heap.size, 0, none⟩) n n) (W.alloc (.cells (cLn (List.replicate n ⟨0, 0, 0⟩)).toArray 291)) := by
  obtain ⟨i0, hi, hz0, hz1, hz2⟩ := info_parts (show (Tryz.prog.info? 291).map (fun i => (i.zero, i.size, i.bytes)) = some (some (.agg #[Value.int .i64 0, .int .i64 0, .int .i64 0]), 3, 24) by kernel_rfl)
  have hr := run_make (P := Tryz.prog) W 292 291 i0 (.agg #[Value.int .i64 0, .int .i64 0, .int .i64 0]) Tryz.underlying292 hi hz0 .i64 .i64 n n (by omega) (by omega) (by rw [hz2]; omega) (by omega)
  simp only [Int.toNat_natCast] at hr
  rw [hr, hz1]
  have e : madeCells (Value.agg #[Value.int .i64 0, .int .i64 0, .int .i64 0]).cells (n * 3) = (cLn (List.replicate n ⟨0, 0, 0⟩)).toArray := by
    apply Array.toList_inj.1
    rw [List.toList_toArray, cLn_rep]
    exact made_rep [Value.int .i64 0, .int .i64 0, .int .i64 0] 3 rfl (by omega) n
  rw [e]
theorem make_lk (n : Nat) (hn : n ≤ 65536) (W : World) : (Instr.makeSlice 293 (.int .i64 (n : Int)) (.int .i64 (n : Int))).run Tryz.prog W = .ok (.slice (some ⟨W.heap.size, 0, none⟩) n n) (W.alloc (.cells (cLk (List.replicate n ⟨0, 0⟩)).toArray 324)) := by
  obtain ⟨i0, hi, hz0, hz1, hz2⟩ := info_parts (show (Tryz.prog.info? 324).map (fun i => (i.zero, i.size, i.bytes)) = some (some (.agg #[Value.int .i64 0, .int .i64 0]), 2, 16) by kernel_rfl)
  have hr := run_make (P := Tryz.prog) W 293 324 i0 (.agg #[Value.int .i64 0, .int .i64 0]) Tryz.underlying293 hi hz0 .i64 .i64 n n (by omega) (by omega) (by rw [hz2]; omega) (by omega)
  simp only [Int.toNat_natCast] at hr
  rw [hr, hz1]
  have e : madeCells (Value.agg #[Value.int .i64 0, .int .i64 0]).cells (n * 2) = (cLk (List.replicate n ⟨0, 0⟩)).toArray := by
    apply Array.toList_inj.1
    rw [List.toList_toArray, cLk_rep]
    exact made_rep [Value.int .i64 0, .int .i64 0] 2 rfl (by omega) n
  rw [e]
/-- The first k of n rows are x, the others y. -/
def part {α : Type} (n k : Nat) (x y : α) : List α := (List.range n).map fun i => if i < k then x else y
theorem part_length {α : Type} (n k : Nat) (x y : α) : (part n k x y).length = n := by simp [part]
theorem part_zero {α : Type} (n : Nat) (x y : α) : List.replicate n y = part n 0 x y := by
  apply List.ext_getElem?
  intro i
  by_cases h : i < n <;> simp [part, h]
theorem part_all {α : Type} (n : Nat) (x y : α) : part n n x y = List.replicate n x := by
  apply List.ext_getElem?
  intro i
  by_cases h : i < n <;> simp [part, h]
theorem part_at {α : Type} {n k : Nat} (x y : α) (h : k < n) : (part n k x y)[k]? = some y := by simp [part, h]
theorem part_step {α : Type} {n k : Nat} (x y : α) (h : k < n) : (part n k x y).set k x = part n (k + 1) x y := by
  apply List.ext_getElem?
  intro i
  by_cases e : i = k
  · subst e
    rw [List.getElem?_set_self (by rw [part_length]; exact h)]
    simp [part, h]
  · rw [List.getElem?_set_ne (by omega)]
    by_cases hi : i < n
    · simp only [part, List.getElem?_map, List.getElem?_range hi, Option.map_some]
      congr 1
      by_cases h1 : i < k
      · rw [if_pos h1, if_pos (by omega)]
      · rw [if_neg h1, if_neg (by omega)]
    · rw [List.getElem?_eq_none (by rw [part_length]; omega), List.getElem?_eq_none (by rw [part_length]; omega)]
set_option maxRecDepth 100000 in
set_option maxHeartbeats 1000000 in
theorem new_ok (n m : Nat) (w : World) (h1 : 1 ≤ n) (h2 : n ≤ 129) (h3 : 1 ≤ m) (h4 : m ≤ 4096) :
    Calls Tryz.prog 120 #[.int .i64 (n : Nat), .int .i64 (m : Nat)] w fun e w' => ∃ pb b1 b2 : Nat, e = .returned (.tuple #[.pointer (some ⟨pb, 0, none⟩), .int .i64 0]) ∧ w.heap.size ≤ pb ∧ w.heap.size ≤ b1 ∧ w.heap.size ≤ b2 ∧ CAt w' pb b1 b2 (List.replicate n ⟨-1, -1, 0⟩) (List.replicate m ⟨-1, -1⟩) ∧ Below w.heap.size w w' := by
  have hm1 := make_ln n (by omega)
  have hm2 := make_lk m (by omega)
  have d1 : decide (n < 1) = false := by simp; omega
  have d2 : decide (129 < n) = false := by simp; omega
  have d3 : decide (m < 1) = false := by simp; omega
  have d4 : decide (4096 < m) = false := by simp; omega
  go_enter Tryz.func120, Tryz.ntmps120
  go_wp2_with fail
  go_region
  · clear hm1 hm2
    have h0 : CAt (((w.alloc (Obj.cells (cLn (List.replicate n ⟨0, 0, 0⟩)).toArray 291)).alloc (Obj.cells (cLk (List.replicate m ⟨0, 0⟩)).toArray 324)).alloc (Obj.cells #[.slice (some ⟨w.heap.size, 0, none⟩) n n, .slice (some ⟨(w.heap.size + 1), 0, none⟩) m m] 295)).drew (w.heap.size + 1 + 1) w.heap.size (w.heap.size + 1) (List.replicate n ⟨0, 0, 0⟩) (List.replicate m ⟨0, 0⟩) := by
      refine ⟨?_, (heap_alloc_old _ _ (by simp <;> omega)).trans (heap_alloc2_old w _ _), (heap_alloc_old _ _ (by simp <;> omega)).trans (heap_alloc2_new w _ _)⟩
      have := heap_alloc_new ((w.alloc (Obj.cells (cLn (List.replicate n ⟨0, 0, 0⟩)).toArray 291)).alloc (Obj.cells (cLk (List.replicate m ⟨0, 0⟩)).toArray 324)) (Obj.cells #[.slice (some ⟨w.heap.size, 0, none⟩) n n, .slice (some ⟨(w.heap.size + 1), 0, none⟩) m m] 295)
      have e : ((w.alloc (Obj.cells (cLn (List.replicate n ⟨0, 0, 0⟩)).toArray 291)).alloc (Obj.cells (cLk (List.replicate m ⟨0, 0⟩)).toArray 324)).heap.size = w.heap.size + 1 + 1 := by simp
      rw [e] at this
      have hz : (List.replicate n (⟨0, 0, 0⟩ : Ln)).length = n ∧ (List.replicate m (⟨0, 0⟩ : Lk)).length = m := by simp
      rw [hz.1, hz.2]
      exact this
    have hB : Below w.heap.size w (((w.alloc (Obj.cells (cLn (List.replicate n ⟨0, 0, 0⟩)).toArray 291)).alloc (Obj.cells (cLk (List.replicate m ⟨0, 0⟩)).toArray 324)).alloc (Obj.cells #[.slice (some ⟨w.heap.size, 0, none⟩) n n, .slice (some ⟨(w.heap.size + 1), 0, none⟩) m m] 295)).drew := (((Below.refl _ _).alloc (Nat.le_refl _) _).alloc (by simp) _).alloc (by simp; omega) _ |>.drew
    have hb : Hid (w.heap.size ≤ w.heap.size + 1 + 1 ∧ w.heap.size ≤ w.heap.size ∧ w.heap.size ≤ (w.heap.size + 1)) := ⟨by omega, by omega, by omega⟩
    generalize (((w.alloc (Obj.cells (cLn (List.replicate n ⟨0, 0, 0⟩)).toArray 291)).alloc (Obj.cells (cLk (List.replicate m ⟨0, 0⟩)).toArray 324)).alloc (Obj.cells #[.slice (some ⟨w.heap.size, 0, none⟩) n n, .slice (some ⟨(w.heap.size + 1), 0, none⟩) m m] 295)).drew = w2 at h0 hB ⊢
    generalize w.heap.size + 1 + 1 = pb at h0 hb ⊢
    generalize w.heap.size + 1 = bx at h0 hb ⊢
    rw [part_zero n ⟨-1, -1, 0⟩] at h0
    have c0 := h0.c0
    rw [part_length] at c0
    have H0 := Lib.hid h0
    clear h0
    go_wp2_with fail
    go_loopw [34] (fun c wr => ∃ k : Nat, k ≤ n ∧ c = .int .i64 (k : Nat) ∧ CAt wr pb w.heap.size bx (part n k ⟨-1, -1, 0⟩ ⟨0, 0, 0⟩) (List.replicate m ⟨0, 0⟩) ∧ Below w.heap.size w wr) (fun c _ => n - (intOf c).toNat)
    case atStart => exact ⟨0, by omega, rfl, H0.out, hB⟩
    case round =>
      obtain ⟨k, hk, rfl, hC, hBr⟩ := hrel
      by_cases hlt : k < n
      · have hx := part_at (⟨-1, -1, 0⟩ : Ln) ⟨0, 0, 0⟩ hlt
        have e0 := hC.c0
        rw [part_length] at e0
        obtain ⟨a0, a1, a2⟩ := hC.ln_ hx
        have f0 := hC.f1 (k * 3)
        have f1 := hC.f1 (k * 3 + 1)
        have f2 := hC.f1 (k * 3 + 2)
        have g1 := hC.setFirst hx (-1)
        have g2 := g1.setLast (List.getElem?_set_self (lt_of_some hx)) (-1)
        have g3 := g2.setN (List.getElem?_set_self (by rw [List.length_set]; exact lt_of_some hx)) 0
        rw [List.set_set, List.set_set] at g3
        have G : Hid (CAt (((wr.setCell ⟨w.heap.size, k * 3, none⟩ (.int .i64 (-1))).setCell ⟨w.heap.size, k * 3 + 1, none⟩ (.int .i64 (-1))).setCell ⟨w.heap.size, k * 3 + 2, none⟩ (.int .i64 0)) pb w.heap.size bx (part n (k + 1) ⟨-1, -1, 0⟩ ⟨0, 0, 0⟩) (List.replicate m ⟨0, 0⟩)) := by
          rw [← part_step _ _ hlt]
          exact g3
        have hb1 := hb.out.2.1
        clear hC hx g1 g2 g3
        go_wp2
        go_roundw
        case rel => exact ⟨k + 1, by omega, by go_num, G.out, ((hBr.setCell hb1 _).setCell hb1 _).setCell hb1 _⟩
        case measure => simp [intOf]; omega
      · obtain rfl : k = n := by omega
        rw [part_all, part_zero m ⟨-1, -1⟩] at hC
        have c1 := hC.c1
        rw [part_length] at c1
        have H1 := Lib.hid hC
        clear hC H0 c0
        go_wp2_with fail
        obtain ⟨wo, rfl⟩ : ∃ wo : World, wo = wr := ⟨_, rfl⟩
        go_loopw [50] (fun c wq => ∃ j : Nat, j ≤ m ∧ c = .int .i64 (j : Nat) ∧ CAt wq pb w.heap.size bx (List.replicate k ⟨-1, -1, 0⟩) (part m j ⟨-1, -1⟩ ⟨0, 0⟩) ∧ Below w.heap.size w wq) (fun c _ => m - (intOf c).toNat)
        case atStart => exact ⟨0, by omega, rfl, H1.out, hBr⟩
        case round =>
          obtain ⟨j, hj, rfl, hC, hBq⟩ := hrel
          by_cases hlt : j < m
          · have hx := part_at (⟨-1, -1⟩ : Lk) ⟨0, 0⟩ hlt
            have e0 := hC.c1
            rw [part_length] at e0
            obtain ⟨a0, a1⟩ := hC.lk_ hx
            have f0 := hC.f2 (j * 2)
            have f1 := hC.f2 (j * 2 + 1)
            have g1 := hC.setLine hx (-1)
            have g2 := g1.setNext (List.getElem?_set_self (lt_of_some hx)) (-1)
            rw [List.set_set] at g2
            have G : Hid (CAt ((wr.setCell ⟨bx, j * 2, none⟩ (.int .i64 (-1))).setCell ⟨bx, j * 2 + 1, none⟩ (.int .i64 (-1))) pb w.heap.size bx (List.replicate k ⟨-1, -1, 0⟩) (part m (j + 1) ⟨-1, -1⟩ ⟨0, 0⟩)) := by
              rw [← part_step _ _ hlt]
              exact g2
            have hb2 := hb.out.2.2
            clear hC hx g1 g2
            go_wp2
            go_roundw
            case rel => exact ⟨j + 1, by omega, by go_num, G.out, (hBq.setCell hb2 _).setCell hb2 _⟩
            case measure => simp [intOf]; omega
          · obtain rfl : j = m := by omega
            rw [part_all] at hC
            have H2 := Lib.hid hC
            clear hC H1 c1
            go_wp2
            go_ret2
            exact ⟨pb, _, _, rfl, hb.out.1, hb.out.2.1, hb.out.2.2, H2.out, hBq⟩
  · clear hm1 hm2
    have h0 : CAt (((w.alloc (Obj.cells (cLk (List.replicate m ⟨0, 0⟩)).toArray 324)).alloc (Obj.cells (cLn (List.replicate n ⟨0, 0, 0⟩)).toArray 291)).alloc (Obj.cells #[.slice (some ⟨(w.heap.size + 1), 0, none⟩) n n, .slice (some ⟨w.heap.size, 0, none⟩) m m] 295)).drew (w.heap.size + 1 + 1) (w.heap.size + 1) w.heap.size (List.replicate n ⟨0, 0, 0⟩) (List.replicate m ⟨0, 0⟩) := by
      refine ⟨?_, (heap_alloc_old _ _ (by simp <;> omega)).trans (heap_alloc2_new w _ _), (heap_alloc_old _ _ (by simp <;> omega)).trans (heap_alloc2_old w _ _)⟩
      have := heap_alloc_new ((w.alloc (Obj.cells (cLk (List.replicate m ⟨0, 0⟩)).toArray 324)).alloc (Obj.cells (cLn (List.replicate n ⟨0, 0, 0⟩)).toArray 291)) (Obj.cells #[.slice (some ⟨(w.heap.size + 1), 0, none⟩) n n, .slice (some ⟨w.heap.size, 0, none⟩) m m] 295)
      have e : ((w.alloc (Obj.cells (cLk (List.replicate m ⟨0, 0⟩)).toArray 324)).alloc (Obj.cells (cLn (List.replicate n ⟨0, 0, 0⟩)).toArray 291)).heap.size = w.heap.size + 1 + 1 := by simp
      rw [e] at this
      have hz : (List.replicate n (⟨0, 0, 0⟩ : Ln)).length = n ∧ (List.replicate m (⟨0, 0⟩ : Lk)).length = m := by simp
      rw [hz.1, hz.2]
      exact this
    have hB : Below w.heap.size w (((w.alloc (Obj.cells (cLk (List.replicate m ⟨0, 0⟩)).toArray 324)).alloc (Obj.cells (cLn (List.replicate n ⟨0, 0, 0⟩)).toArray 291)).alloc (Obj.cells #[.slice (some ⟨(w.heap.size + 1), 0, none⟩) n n, .slice (some ⟨w.heap.size, 0, none⟩) m m] 295)).drew := (((Below.refl _ _).alloc (Nat.le_refl _) _).alloc (by simp) _).alloc (by simp; omega) _ |>.drew
    have hb : Hid (w.heap.size ≤ w.heap.size + 1 + 1 ∧ w.heap.size ≤ (w.heap.size + 1) ∧ w.heap.size ≤ w.heap.size) := ⟨by omega, by omega, by omega⟩
    generalize (((w.alloc (Obj.cells (cLk (List.replicate m ⟨0, 0⟩)).toArray 324)).alloc (Obj.cells (cLn (List.replicate n ⟨0, 0, 0⟩)).toArray 291)).alloc (Obj.cells #[.slice (some ⟨(w.heap.size + 1), 0, none⟩) n n, .slice (some ⟨w.heap.size, 0, none⟩) m m] 295)).drew = w2 at h0 hB ⊢
    generalize w.heap.size + 1 + 1 = pb at h0 hb ⊢
    generalize w.heap.size + 1 = bx at h0 hb ⊢
    rw [part_zero n ⟨-1, -1, 0⟩] at h0
    have c0 := h0.c0
    rw [part_length] at c0
    have H0 := Lib.hid h0
    clear h0
    go_wp2_with fail
    go_loopw [34] (fun c wr => ∃ k : Nat, k ≤ n ∧ c = .int .i64 (k : Nat) ∧ CAt wr pb bx w.heap.size (part n k ⟨-1, -1, 0⟩ ⟨0, 0, 0⟩) (List.replicate m ⟨0, 0⟩) ∧ Below w.heap.size w wr) (fun c _ => n - (intOf c).toNat)
    case atStart => exact ⟨0, by omega, rfl, H0.out, hB⟩
    case round =>
      obtain ⟨k, hk, rfl, hC, hBr⟩ := hrel
      by_cases hlt : k < n
      · have hx := part_at (⟨-1, -1, 0⟩ : Ln) ⟨0, 0, 0⟩ hlt
        have e0 := hC.c0
        rw [part_length] at e0
        obtain ⟨a0, a1, a2⟩ := hC.ln_ hx
        have f0 := hC.f1 (k * 3)
        have f1 := hC.f1 (k * 3 + 1)
        have f2 := hC.f1 (k * 3 + 2)
        have g1 := hC.setFirst hx (-1)
        have g2 := g1.setLast (List.getElem?_set_self (lt_of_some hx)) (-1)
        have g3 := g2.setN (List.getElem?_set_self (by rw [List.length_set]; exact lt_of_some hx)) 0
        rw [List.set_set, List.set_set] at g3
        have G : Hid (CAt (((wr.setCell ⟨bx, k * 3, none⟩ (.int .i64 (-1))).setCell ⟨bx, k * 3 + 1, none⟩ (.int .i64 (-1))).setCell ⟨bx, k * 3 + 2, none⟩ (.int .i64 0)) pb bx w.heap.size (part n (k + 1) ⟨-1, -1, 0⟩ ⟨0, 0, 0⟩) (List.replicate m ⟨0, 0⟩)) := by
          rw [← part_step _ _ hlt]
          exact g3
        have hb1 := hb.out.2.1
        clear hC hx g1 g2 g3
        go_wp2
        go_roundw
        case rel => exact ⟨k + 1, by omega, by go_num, G.out, ((hBr.setCell hb1 _).setCell hb1 _).setCell hb1 _⟩
        case measure => simp [intOf]; omega
      · obtain rfl : k = n := by omega
        rw [part_all, part_zero m ⟨-1, -1⟩] at hC
        have c1 := hC.c1
        rw [part_length] at c1
        have H1 := Lib.hid hC
        clear hC H0 c0
        go_wp2_with fail
        obtain ⟨wo, rfl⟩ : ∃ wo : World, wo = wr := ⟨_, rfl⟩
        go_loopw [50] (fun c wq => ∃ j : Nat, j ≤ m ∧ c = .int .i64 (j : Nat) ∧ CAt wq pb bx w.heap.size (List.replicate k ⟨-1, -1, 0⟩) (part m j ⟨-1, -1⟩ ⟨0, 0⟩) ∧ Below w.heap.size w wq) (fun c _ => m - (intOf c).toNat)
        case atStart => exact ⟨0, by omega, rfl, H1.out, hBr⟩
        case round =>
          obtain ⟨j, hj, rfl, hC, hBq⟩ := hrel
          by_cases hlt : j < m
          · have hx := part_at (⟨-1, -1⟩ : Lk) ⟨0, 0⟩ hlt
            have e0 := hC.c1
            rw [part_length] at e0
            obtain ⟨a0, a1⟩ := hC.lk_ hx
            have f0 := hC.f2 (j * 2)
            have f1 := hC.f2 (j * 2 + 1)
            have g1 := hC.setLine hx (-1)
            have g2 := g1.setNext (List.getElem?_set_self (lt_of_some hx)) (-1)
            rw [List.set_set] at g2
            have G : Hid (CAt ((wr.setCell ⟨w.heap.size, j * 2, none⟩ (.int .i64 (-1))).setCell ⟨w.heap.size, j * 2 + 1, none⟩ (.int .i64 (-1))) pb bx w.heap.size (List.replicate k ⟨-1, -1, 0⟩) (part m (j + 1) ⟨-1, -1⟩ ⟨0, 0⟩)) := by
              rw [← part_step _ _ hlt]
              exact g2
            have hb2 := hb.out.2.2
            clear hC hx g1 g2
            go_wp2
            go_roundw
            case rel => exact ⟨j + 1, by omega, by go_num, G.out, (hBq.setCell hb2 _).setCell hb2 _⟩
            case measure => simp [intOf]; omega
          · obtain rfl : j = m := by omega
            rw [part_all] at hC
            have H2 := Lib.hid hC
            clear hC H1 c1
            go_wp2
            go_ret2
            exact ⟨pb, _, _, rfl, hb.out.1, hb.out.2.1, hb.out.2.2, H2.out, hBq⟩
end Go.Proofs.YtpanmfdbdgecaaaGreat.C.CH

namespace Go.Proofs.YtpanmfdbdgecaaaGreat.C.CH
open Go.RowKit
set_option linter.unusedVariables false
theorem at_of (pb : Nat) (i k p ah : Int) (b : Bool) (w : World) (C : Hid (Calls Tryz.prog 143 #[.pointer (some ⟨pb, 0, none⟩), .int .i64 i, .int .i64 k] w fun e w' => e = .returned (.tuple #[.int .i64 p, .int .i64 ah, .bool b]) ∧ ∃ m, w' = w.drewN m)) :
    Calls Tryz.prog 85 #[.pointer (some ⟨pb, 0, none⟩), .int .i64 i, .int .i64 k] w fun e w' => e = .returned (.tuple #[.int .i64 p, .bool b]) ∧ ∃ m, w' = w.drewN m := by
  go_enter Tryz.func85, Tryz.ntmps85
  go_wp2_with fail
  refine C.out.mono ?_
  rintro e w1 ⟨rfl, m, rfl⟩
  go_wp2
  go_ret2
  exact ⟨rfl, m, rfl⟩
/-- Chains in memory, told by their lines and how many places there are. -/
def Chain (w : World) (pb b1 b2 : Nat) (Q : List (List Nat)) (m : Nat) : Prop := ∃ ln lk, CAt w pb b1 b2 ln lk ∧ CInv ln lk Q ∧ lk.length = m ∧ Q.length ≤ 129 ∧ m ≤ 4096
section
variable {w : World} {pb b1 b2 m : Nat} {Q : List (List Nat)}
theorem Chain.drewN (h : Chain w pb b1 b2 Q m) (n : Nat) : Chain (w.drewN n) pb b1 b2 Q m := by
  obtain ⟨ln, lk, h1, h2⟩ := h
  exact ⟨ln, lk, h1.drewN n, h2⟩
theorem Chain.below (h : Chain w pb b1 b2 Q m) {w' : World} (p : Below w.heap.size w w') : Chain w' pb b1 b2 Q m := by
  obtain ⟨ln, lk, h1, h2⟩ := h
  exact ⟨ln, lk, h1.below p, h2⟩
theorem Chain.nodup (h : Chain w pb b1 b2 Q m) {l : Nat} {q : List Nat} (hq : Q[l]? = some q) : q.Nodup ∧ q.length ≤ m := by
  obtain ⟨ln, lk, h1, h2, rfl, _⟩ := h
  have hn : q.Nodup := by
    rw [List.Nodup, List.pairwise_iff_getElem]
    intro i j hi hj hij e
    have := h2.inj l q i j _ hq (List.getElem?_eq_getElem hi) (by rw [List.getElem?_eq_getElem hj, e])
    omega
  exact ⟨hn, nodup_length _ q hn fun i hi => h2.lt hq hi⟩
theorem c_len (h : Chain w pb b1 b2 Q m) {l : Nat} {q : List Nat} (hq : Q[l]? = some q) :
    Calls Tryz.prog 84 #[.pointer (some ⟨pb, 0, none⟩), .int .i64 (l : Nat)] w fun e w' => e = .returned (.int .i64 (q.length : Nat)) ∧ w' = w := by
  obtain ⟨ln, lk, h1, h2, rfl, h4, h5⟩ := h
  exact len_yes pb b1 b2 l _ ln lk w h1 (h2.line l q hq) (by rw [h2.len]; omega)
theorem c_new (n m : Nat) (w : World) (h1 : 1 ≤ n) (h2 : n ≤ 129) (h3 : 1 ≤ m) (h4 : m ≤ 4096) :
    Calls Tryz.prog 120 #[.int .i64 (n : Nat), .int .i64 (m : Nat)] w fun e w' => ∃ pb b1 b2 : Nat, e = .returned (.tuple #[.pointer (some ⟨pb, 0, none⟩), .int .i64 0]) ∧ w.heap.size ≤ pb ∧ w.heap.size ≤ b1 ∧ w.heap.size ≤ b2 ∧ Chain w' pb b1 b2 (List.replicate n []) m ∧ Below w.heap.size w w' := by
  refine (new_ok n m w h1 h2 h3 h4).mono ?_
  rintro e w' ⟨pb, b1, b2, rfl, g1, g2, g3, hC, hB⟩
  exact ⟨pb, b1, b2, rfl, g1, g2, g3, ⟨_, _, hC, CInv.new n m, by simp, by simpa using h2, h4⟩, hB⟩
theorem c_at (h : Chain w pb b1 b2 Q m) {l k p : Nat} {q : List Nat} (hq : Q[l]? = some q) (hp : q[k]? = some p) :
    Calls Tryz.prog 85 #[.pointer (some ⟨pb, 0, none⟩), .int .i64 (l : Nat), .int .i64 (k : Nat)] w fun e w' => e = .returned (.tuple #[.int .i64 (p : Nat), .bool true]) ∧ ∃ m, w' = w.drewN m := by
  have hnd := (h.nodup hq).2
  obtain ⟨ln, lk, h1, h2, rfl, h4, h5⟩ := h
  exact at_of pb _ _ _ _ _ w (find_yes pb b1 b2 l k p q Q ln lk w h1 h2 hq hp (by rw [h2.len]; omega) (by omega) (by omega))
theorem find_none (i k : Int) (h : Chain w pb b1 b2 Q m) (hn : ∀ (l k' : Nat) (q : List Nat), i = l → k = k' → Q[l]? = some q → q[k']? = none) :
    Calls Tryz.prog 143 #[.pointer (some ⟨pb, 0, none⟩), .int .i64 i, .int .i64 k] w fun e w' => e = .returned (.tuple #[.int .i64 0, .int .i64 (-1), .bool false]) ∧ w' = w := by
  obtain ⟨ln, lk, h1, h2, rfl, h4, h5⟩ := h
  by_cases hl : 0 ≤ i ∧ i < Q.length
  · obtain ⟨l, rfl⟩ := Int.eq_ofNat_of_zero_le hl.1
    obtain ⟨q, hq⟩ : ∃ q, Q[l]? = some q := ⟨_, List.getElem?_eq_getElem (by omega)⟩
    refine find_out pb b1 b2 l k _ ln lk w h1 (h2.line l q hq) (by rw [h2.len]; omega) ?_
    by_cases hk : k < 0
    · exact .inl hk
    · obtain ⟨k, rfl⟩ := Int.eq_ofNat_of_zero_le (by omega : 0 ≤ k)
      have := hn l k q rfl rfl hq
      rw [List.getElem?_eq_none_iff] at this
      exact .inr (by show ((q.length : Nat) : Int) ≤ (k : Int); omega)
  · exact find_no pb b1 b2 i k ln lk w h1 (by rw [h2.len]; exact hl)
end
end Go.Proofs.YtpanmfdbdgecaaaGreat.C.CH

namespace Go.Proofs.YtpanmfdbdgecaaaGreat.C.CH
open Go.RowKit
set_option linter.unusedVariables false
section
variable {w : World} {pb b1 b2 m : Nat} {Q : List (List Nat)}
theorem c_push (h : Chain w pb b1 b2 Q m) {l p : Nat} {q : List Nat} (hq : Q[l]? = some q) (hp : p < m) (hn : ∀ (l : Nat) (q : List Nat), Q[l]? = some q → p ∉ q) :
    Calls Tryz.prog 152 #[.pointer (some ⟨pb, 0, none⟩), .int .i64 (l : Nat), .int .i64 (p : Nat)] w fun e w' => e = .returned (.bool true) ∧ Chain w' pb b1 b2 (Q.set l (q ++ [p])) m ∧ Two b1 b2 w w' := by
  have hnd := (h.nodup hq).2
  obtain ⟨ln, lk, h1, h2, rfl, h4, h5⟩ := h
  obtain ⟨⟨xl, xn⟩, hx⟩ : ∃ x, lk[p]? = some x := ⟨_, List.getElem?_eq_getElem hp⟩
  have hf : xl = -1 := h2.free p _ hx hn
  subst hf
  have hline := h2.line l q hq
  by_cases he : q = []
  · subst he
    refine (push_first pb b1 b2 l p _ _ xn ln lk w h1 hline hx (by rw [h2.len]; omega) (by omega)).mono ?_
    rintro e w' ⟨rfl, hC, hT⟩
    have hI := h2.push hq hx rfl (lk' := lk.set p ⟨l, -1⟩) (List.getElem?_set_self (lt_of_some hx)) (fun u hu => by simp at hu) (fun u hu _ => List.getElem?_set_ne (fun e => hu e.symm))
    exact ⟨rfl, ⟨_, _, hC, hI, by rw [List.length_set], by rw [List.length_set]; exact h4, h5⟩, hT⟩
  · have hl0 : 0 < q.length := List.length_pos_iff.2 he
    obtain ⟨u, hu, hat⟩ := atOr_lt (q := q) (k := q.length - 1) (by omega)
    rw [hat] at hline
    have hz := h2.seg l q _ u hq hu
    have hup : u ≠ p := fun e => hn l q hq (e ▸ List.mem_of_getElem? hu)
    refine (push_next pb b1 b2 l p u _ _ xn _ _ ln lk w h1 hline hx hz hup (by omega) (by omega) (by rw [h2.len]; omega) (by omega)).mono ?_
    rintro e w' ⟨rfl, hC, hT⟩
    have hI := h2.push hq hx rfl (lk' := (lk.set u ⟨l, (p : Nat)⟩).set p ⟨l, -1⟩) (List.getElem?_set_self (by rw [List.length_set]; exact lt_of_some hx))
      (fun u' hu' => by
        rw [hu] at hu'
        injection hu' with hu'
        subst hu'
        rw [List.getElem?_set_ne (fun e => hup e.symm), List.getElem?_set_self (lt_of_some hz)])
      (fun u' hu1 hu2 => by
        rw [List.getElem?_set_ne (fun e => hu1 e.symm), List.getElem?_set_ne (fun e => hu2 (by rw [hu, e]))])
    rw [if_neg he] at hI
    exact ⟨rfl, ⟨_, _, hC, hI, by simp, by rw [List.length_set]; exact h4, h5⟩, hT⟩
theorem c_at_no (i k : Int) (h : Chain w pb b1 b2 Q m) (hn : ∀ (l k' : Nat) (q : List Nat), i = l → k = k' → Q[l]? = some q → q[k']? = none) :
    Calls Tryz.prog 85 #[.pointer (some ⟨pb, 0, none⟩), .int .i64 i, .int .i64 k] w fun e w' => e = .returned (.tuple #[.int .i64 0, .bool false]) ∧ ∃ m, w' = w.drewN m :=
  at_of pb i k _ _ _ w ((find_none i k h hn).mono fun e w' ⟨h1, h2⟩ => ⟨h1, 0, h2⟩)
end
end Go.Proofs.YtpanmfdbdgecaaaGreat.C.CH

namespace Go.Proofs.YtpanmfdbdgecaaaGreat.C.CH
open Go.RowKit
set_option linter.unusedVariables false
theorem erase_ln {q : List Nat} {k : Nat} (hk : k < q.length) : (⟨atOr (q.eraseIdx k) 0, atOr (q.eraseIdx k) ((q.eraseIdx k).length - 1), (q.eraseIdx k).length⟩ : Ln) =
    ⟨if k = 0 then atOr q (k + 1) else atOr q 0, if k + 1 = q.length then aheadOr q k else atOr q (q.length - 1), (q.length : Int) - 1⟩ := by
  have hel : (q.eraseIdx k).length = q.length - 1 := List.length_eraseIdx_of_lt hk
  rw [hel]
  congr 1
  · rw [atOr_erase]
    by_cases h : k = 0
    · subst h
      rw [if_neg (by omega), if_pos rfl]
    · rw [if_pos (by omega), if_neg h]
  · rw [atOr_erase]
    by_cases h : k + 1 = q.length
    · rw [if_pos h]
      unfold aheadOr
      by_cases h0 : k = 0
      · subst h0
        rw [if_neg (by omega), if_pos rfl, atOr_none (by omega)]
      · rw [if_pos (by omega), if_neg h0, show q.length - 1 - 1 = k - 1 by omega]
    · rw [if_neg h, if_neg (by omega), show q.length - 1 - 1 + 1 = q.length - 1 by omega]
  · omega
section
variable {w : World} {pb b1 b2 m : Nat} {Q : List (List Nat)}
theorem c_cut (h : Chain w pb b1 b2 Q m) {l k p : Nat} {q : List Nat} (hq : Q[l]? = some q) (hp : q[k]? = some p) :
    Calls Tryz.prog 169 #[.pointer (some ⟨pb, 0, none⟩), .int .i64 (l : Nat), .int .i64 (k : Nat)] w fun e w' => e = .returned (.tuple #[.int .i64 (p : Nat), .bool true]) ∧ Chain w' pb b1 b2 (Q.set l (q.eraseIdx k)) m ∧ Two b1 b2 w w' := by
  have hnd := (h.nodup hq).2
  obtain ⟨ln, lk, h1, h2, rfl, h4, h5⟩ := h
  have hkl := lt_of_some hp
  have C := Lib.hid (find_yes pb b1 b2 l k p q Q ln lk w h1 h2 hq hp (by rw [h2.len]; omega) (by omega) (by omega))
  have hline := h2.line l q hq
  have hy := h2.seg l q k p hq hp
  have hln : ln.length ≤ 65536 := by rw [h2.len]; omega
  have hlk : lk.length ≤ 65536 := by omega
  have hE := erase_ln hkl
  by_cases h0 : k = 0
  · have ha : aheadOr q k = -1 := by unfold aheadOr; rw [if_pos h0]
    rw [ha] at C hE
    have hI := h2.cut hq hp (lk' := lk.set p ⟨-1, -1⟩) (List.getElem?_set_self (lt_of_some hy)) (fun u hu => absurd hu (by omega)) (fun u hu _ => List.getElem?_set_ne (fun e => hu e.symm))
    rw [hE, if_pos h0] at hI
    by_cases hx : k + 1 = q.length
    · rw [atOr_none (q := q) (k := k + 1) (by omega)] at hy hI
      rw [if_pos hx] at hI
      refine (cut_he pb b1 b2 l k p _ _ _ _ ln lk w h1 C hline hy (by omega) (by omega) hln hlk).mono ?_
      rintro e w' ⟨rfl, hC, hT⟩
      exact ⟨rfl, ⟨_, _, hC, hI, by rw [List.length_set], by rw [List.length_set]; exact h4, h5⟩, hT⟩
    · obtain ⟨v, hv, hat⟩ := atOr_lt (q := q) (k := k + 1) (by omega)
      rw [hat] at hy hI
      rw [if_neg hx] at hI
      refine (cut_hm pb b1 b2 l k p v _ _ _ _ ln lk w h1 C hline hy (by omega) (by omega) hln hlk).mono ?_
      rintro e w' ⟨rfl, hC, hT⟩
      exact ⟨rfl, ⟨_, _, hC, hI, by rw [List.length_set], by rw [List.length_set]; exact h4, h5⟩, hT⟩
  · obtain ⟨u, hu, hatu⟩ := atOr_lt (q := q) (k := k - 1) (by omega)
    have ha : aheadOr q k = (u : Nat) := by unfold aheadOr; rw [if_neg h0, hatu]
    rw [ha] at C hE
    have hz := h2.seg l q (k - 1) u hq hu
    have hup : u ≠ p := fun e => by subst e; have := h2.inj l q _ _ u hq hu hp; omega
    have hI := h2.cut hq hp (lk' := (lk.set u ⟨l, atOr q (k + 1)⟩).set p ⟨-1, -1⟩) (List.getElem?_set_self (by rw [List.length_set]; exact lt_of_some hy))
      (fun u' _ hu' => by
        rw [hu] at hu'
        injection hu' with hu'
        subst hu'
        rw [List.getElem?_set_ne (fun e => hup e.symm), List.getElem?_set_self (lt_of_some hz)])
      (fun u' hu1 hu2 => by
        rw [List.getElem?_set_ne (fun e => hu1 e.symm), List.getElem?_set_ne (fun e => hu2 (by omega) (by rw [hu, e]))])
    rw [hE, if_neg h0] at hI
    by_cases hx : k + 1 = q.length
    · rw [atOr_none (q := q) (k := k + 1) (by omega)] at hy hI
      rw [if_pos hx] at hI
      refine (cut_me pb b1 b2 l k p u _ _ _ _ _ _ ln lk w h1 C hline hy hz hup (by omega) (by omega) hln hlk).mono ?_
      rintro e w' ⟨rfl, hC, hT⟩
      exact ⟨rfl, ⟨_, _, hC, hI, by simp, by rw [List.length_set]; exact h4, h5⟩, hT⟩
    · obtain ⟨v, hv, hat⟩ := atOr_lt (q := q) (k := k + 1) (by omega)
      rw [hat] at hy hI
      rw [if_neg hx] at hI
      refine (cut_mm pb b1 b2 l k p u v _ _ _ _ _ _ ln lk w h1 C hline hy hz hup (by omega) (by omega) hln hlk).mono ?_
      rintro e w' ⟨rfl, hC, hT⟩
      exact ⟨rfl, ⟨_, _, hC, hI, by simp, by rw [List.length_set]; exact h4, h5⟩, hT⟩
end
end Go.Proofs.YtpanmfdbdgecaaaGreat.C.CH

namespace Go.Proofs.YtpanmfdbdgecaaaGreat.C
/-- In which line p is; -1: in none. -/
def lineQ (Q : List (List Nat)) (p : Int) : Int := match Q.findIdx? (fun q => q.any (fun x => (x : Int) == p)) with | some k => (k : Int) | none => -1
def lenQ (Q : List (List Nat)) (l : Int) : Nat := if 0 ≤ l then (match Q[l.toNat]? with | some q => q.length | none => 0) else 0
theorem lineQ_cases (Q : List (List Nat)) (p : Int) : (∃ (k : Nat) (p' : Nat) (q : List Nat), p = p' ∧ Q[k]? = some q ∧ p' ∈ q ∧ lineQ Q p = k) ∨ (lineQ Q p = -1 ∧ ∀ (k p' : Nat) (q : List Nat), p = p' → Q[k]? = some q → p' ∉ q) := by
  unfold lineQ
  cases h : Q.findIdx? (fun q => q.any (fun x => (x : Int) == p)) with
  | none =>
    refine .inr ⟨rfl, ?_⟩
    rw [List.findIdx?_eq_none_iff] at h
    intro k p' q e hq hm
    have := h q (List.mem_of_getElem? hq)
    simp only [List.any_eq_false, beq_iff_eq] at this
    exact this p' hm e.symm
  | some k =>
    rw [List.findIdx?_eq_some_iff_getElem] at h
    obtain ⟨hk, h1, _⟩ := h
    simp only [List.any_eq_true, beq_iff_eq] at h1
    obtain ⟨x, hx, rfl⟩ := h1
    exact .inl ⟨k, x, Q[k], rfl, List.getElem?_eq_getElem hk, hx, rfl⟩
namespace CH
open Go.RowKit
set_option linter.unusedVariables false
section
variable {w : World} {pb b1 b2 m : Nat} {Q : List (List Nat)}
theorem Chain.cut_length (h : Chain w pb b1 b2 Q m) : Q.length ≤ 129 ∧ m ≤ 4096 := by
  obtain ⟨ln, lk, _, _, _, h4, h5⟩ := h
  exact ⟨h4, h5⟩
end
end CH
end Go.Proofs.YtpanmfdbdgecaaaGreat.C

namespace Go.Proofs.YtpanmfdbdgecaaaGreat.C
open Go.RowKit
set_option linter.unusedVariables false
/-- At most the blocks of a list have turned; new ones may have come. -/
structure Amg (bs : List Nat) (w w' : World) : Prop where
  os : w'.os = w.os
  tape : w'.tape = w.tape
  output : w'.output = w.output
  size : w.heap.size ≤ w'.heap.size
  block : ∀ k, k < w.heap.size → k ∉ bs → w'.heap[k]? = w.heap[k]?
theorem Amg.refl (bs : List Nat) (w : World) : Amg bs w w := ⟨rfl, rfl, rfl, Nat.le_refl _, fun _ _ _ => rfl⟩
theorem Amg.trans {bs : List Nat} {a b c : World} (p : Amg bs a b) (q : Amg bs b c) : Amg bs a c :=
  ⟨q.os.trans p.os, q.tape.trans p.tape, q.output.trans p.output, Nat.le_trans p.size q.size, fun k hk h => (q.block k (Nat.lt_of_lt_of_le hk p.size) h).trans (p.block k hk h)⟩
theorem Amg.of_two {bs : List Nat} {g h : Nat} {a b : World} (p : Two g h a b) (hg : g ∈ bs) (hh : h ∈ bs) : Amg bs a b :=
  ⟨p.os, p.tape, p.output, p.size, fun k hk hn => p.block k hk (fun e => hn (e ▸ hg)) (fun e => hn (e ▸ hh))⟩
theorem Amg.of_below {bs : List Nat} {a b : World} (p : Below a.heap.size a b) : Amg bs a b := ⟨p.os, p.tape, p.output, p.size, fun k hk _ => p.block k hk⟩
theorem Amg.sub {bs cs : List Nat} {a b : World} (p : Amg bs a b) (h : ∀ x ∈ bs, x ∈ cs) : Amg cs a b :=
  ⟨p.os, p.tape, p.output, p.size, fun k hk hn => p.block k hk fun hm => hn (h k hm)⟩
theorem Amg.below {bs : List Nat} {B : Nat} {a b : World} (p : Amg bs a b) (hB : B ≤ a.heap.size) (h : ∀ x ∈ bs, B ≤ x) : Below B a b :=
  ⟨p.os, p.tape, p.output, p.size, fun k hk => p.block k (by omega) fun hm => by have := h k hm; omega⟩
theorem Amg.keep {bs : List Nat} {a b : World} (p : Amg bs a b) {k : Nat} {o : Obj} (h : a.heap[k]? = some o) (hn : k ∉ bs) : b.heap[k]? = some o :=
  (p.block k (Array.getElem?_eq_some_iff.1 h).1 hn).trans h
theorem Amg.drewN {bs : List Nat} {a b : World} (p : Amg bs a b) (n : Nat) : Amg bs a (b.drewN n) := ⟨p.os, p.tape, p.output, p.size, p.block⟩
theorem chain_two {w w' : World} {pb b1 b2 m g k : Nat} {Q : List (List Nat)} (h : CH.Chain w pb b1 b2 Q m) (p : Two g k w w') (h1 : pb ≠ g ∧ pb ≠ k) (h2 : b1 ≠ g ∧ b1 ≠ k) (h3 : b2 ≠ g ∧ b2 ≠ k) : CH.Chain w' pb b1 b2 Q m := by
  obtain ⟨ln, lk, a1, a2⟩ := h
  exact ⟨ln, lk, a1.two p h1.1 h1.2 h2.1 h2.2 h3.1 h3.2, a2⟩
/-- Where a store lies. -/
structure Adr where
  sb : Nat
  ps : Nat
  pr : Nat
  pb : Nat
  b1 : Nat
  b2 : Nat
  bb : Nat
def Adr.bs (a : Adr) : List Nat := [a.ps, a.pr, a.b1, a.b2, a.bb]
structure StAt (w : World) (a : Adr) (L : List (List (Array Value))) (R : Nat) (A : List (Option (Array Value))) (fl : List Nat) (Q : List (List Nat)) : Prop where
  ptr : w.heap[a.sb]? = some (.cells #[.pointer (some ⟨a.ps, 0, none⟩), .pointer (some ⟨a.pb, 0, none⟩), .slice (some ⟨a.bb, 0, none⟩) L.length L.length] 224 (0, 0))
  slab : PS.Slab w a.ps a.pr A fl
  chain : CH.Chain w a.pb a.b1 a.b2 Q R
  bytes : w.heap[a.bb]? = some (.cells (bytesV L).toArray 2 (0, 0))
  lk : Linked A Q L fl R
/-- A store in memory, told by its lists of packets. -/
def Sto (w : World) (a : Adr) (L : List (List (Array Value))) (R : Nat) : Prop := ∃ A fl Q, StAt w a L R A fl Q
theorem ne_ty {w : World} {a b : Nat} {x y : Array Value} {s t : TypeId} {f g : Nat × Nat} (h1 : w.heap[a]? = some (.cells x s f)) (h2 : w.heap[b]? = some (.cells y t g)) (h : s ≠ t) : a ≠ b := by
  rintro rfl
  have := h1.symm.trans h2
  injection this with this
  injection this with _ h2
  exact h h2
section
variable {w w' : World} {a : Adr} {L : List (List (Array Value))} {R : Nat} {A : List (Option (Array Value))} {fl : List Nat} {Q : List (List Nat)}
theorem StAt.ne (h : StAt w a L R A fl Q) : (a.sb ≠ a.ps ∧ a.sb ≠ a.pr ∧ a.sb ≠ a.pb ∧ a.sb ≠ a.b1 ∧ a.sb ≠ a.b2 ∧ a.sb ≠ a.bb) ∧ (a.ps ≠ a.pr ∧ a.ps ≠ a.pb ∧ a.ps ≠ a.b1 ∧ a.ps ≠ a.b2 ∧ a.ps ≠ a.bb) ∧ (a.pr ≠ a.pb ∧ a.pr ≠ a.b1 ∧ a.pr ≠ a.b2 ∧ a.pr ≠ a.bb) ∧ (a.pb ≠ a.b1 ∧ a.pb ≠ a.b2 ∧ a.pb ≠ a.bb) ∧ a.b1 ≠ a.b2 ∧ a.b1 ≠ a.bb ∧ a.b2 ≠ a.bb := by
  obtain ⟨_, _, l, hS, _⟩ := h.slab
  obtain ⟨ln, lk, hC, _⟩ := h.chain
  refine ⟨⟨ne_ty h.ptr hS.ptr (by decide), ne_ty h.ptr hS.row (by decide), ne_ty h.ptr hC.ptr (by decide), ne_ty h.ptr hC.r1 (by decide), ne_ty h.ptr hC.r2 (by decide), ne_ty h.ptr h.bytes (by decide)⟩,
    ⟨ne_ty hS.ptr hS.row (by decide), ne_ty hS.ptr hC.ptr (by decide), ne_ty hS.ptr hC.r1 (by decide), ne_ty hS.ptr hC.r2 (by decide), ne_ty hS.ptr h.bytes (by decide)⟩,
    ⟨ne_ty hS.row hC.ptr (by decide), ne_ty hS.row hC.r1 (by decide), ne_ty hS.row hC.r2 (by decide), ne_ty hS.row h.bytes (by decide)⟩,
    ⟨ne_ty hC.ptr hC.r1 (by decide), ne_ty hC.ptr hC.r2 (by decide), ne_ty hC.ptr h.bytes (by decide)⟩, ne_ty hC.r1 hC.r2 (by decide), ne_ty hC.r1 h.bytes (by decide), ne_ty hC.r2 h.bytes (by decide)⟩
theorem StAt.lt (h : StAt w a L R A fl Q) : a.sb < w.heap.size ∧ a.ps < w.heap.size ∧ a.pr < w.heap.size ∧ a.pb < w.heap.size ∧ a.b1 < w.heap.size ∧ a.b2 < w.heap.size ∧ a.bb < w.heap.size := by
  obtain ⟨_, _, l, hS, _⟩ := h.slab
  obtain ⟨ln, lk, hC, _⟩ := h.chain
  exact ⟨(Array.getElem?_eq_some_iff.1 h.ptr).1, (Array.getElem?_eq_some_iff.1 hS.ptr).1, (Array.getElem?_eq_some_iff.1 hS.row).1, (Array.getElem?_eq_some_iff.1 hC.ptr).1, (Array.getElem?_eq_some_iff.1 hC.r1).1, (Array.getElem?_eq_some_iff.1 hC.r2).1, (Array.getElem?_eq_some_iff.1 h.bytes).1⟩
theorem StAt.below (h : StAt w a L R A fl Q) (p : Below w.heap.size w w') : StAt w' a L R A fl Q := ⟨keep_block p h.ptr, h.slab.below p, h.chain.below p, keep_block p h.bytes, h.lk⟩
theorem StAt.c0 (h : StAt w a L R A fl Q) : w.cell? ⟨a.sb, 0, none⟩ = some (.pointer (some ⟨a.ps, 0, none⟩)) := by rw [cell_of_row _ _ _ _ _ _ h.ptr]; rfl
theorem StAt.c1 (h : StAt w a L R A fl Q) : w.cell? ⟨a.sb, 1, none⟩ = some (.pointer (some ⟨a.pb, 0, none⟩)) := by rw [cell_of_row _ _ _ _ _ _ h.ptr]; rfl
theorem StAt.c2 (h : StAt w a L R A fl Q) : w.cell? ⟨a.sb, 2, none⟩ = some (.slice (some ⟨a.bb, 0, none⟩) L.length L.length) := by rw [cell_of_row _ _ _ _ _ _ h.ptr]; rfl
theorem StAt.byte (h : StAt w a L R A fl Q) {c : Nat} {l : List (Array Value)} (hl : L[c]? = some l) : w.cell? ⟨a.bb, c, none⟩ = some (.int .i64 (sumL l)) := by
  rw [cell_of_row _ _ _ _ _ _ h.bytes, List.getElem?_toArray]
  exact bytesV_at hl
theorem StAt.len (h : StAt w a L R A fl Q) : L.length ≤ 129 ∧ R ≤ 4096 ∧ total L ≤ R := by
  have h1 := h.chain.cut_length
  have h2 := h.lk.lenQ
  have h3 := h.lk.cnt
  omega
theorem Sto.below (h : Sto w a L R) (p : Below w.heap.size w w') : Sto w' a L R := by
  obtain ⟨A, fl, Q, h⟩ := h
  exact ⟨A, fl, Q, h.below p⟩
theorem Sto.drewN (h : Sto w a L R) (n : Nat) : Sto (w.drewN n) a L R := h.below (below_drewN (Below.refl _ _) n)
/-- The bytes of a class are stored. -/
theorem bytes_store (h : w.heap[a.bb]? = some (.cells (bytesV L).toArray 2 (0, 0))) {c : Nat} (l : List (Array Value)) : (w.setCell ⟨a.bb, c, none⟩ (.int .i64 (sumL l))).heap[a.bb]? = some (.cells (bytesV (L.set c l)).toArray 2 (0, 0)) := by
  rw [heap_setCell_same _ _ _ _ _ _ h, bytesV_set]
  simp
end
theorem has_st (a : Adr) (c : Int) (n : Nat) (w : World) (h : w.cell? ⟨a.sb, 2, none⟩ = some (.slice (some ⟨a.bb, 0, none⟩) n n)) (hn : n ≤ 65536) :
    Calls Tryz.prog 83 #[.pointer (some ⟨a.sb, 0, none⟩), .int .i64 c] w fun e w' => e = .returned (.bool (decide (0 ≤ c ∧ c < n))) ∧ w' = w := by
  by_cases h0 : c < 0
  · rw [decide_eq_false (show ¬ (0 ≤ c ∧ c < n) by omega)]
    go_enter Tryz.func83, Tryz.ntmps83
    go_wp2
    go_ret
    exact ⟨rfl, rfl⟩
  · have h0' : 0 ≤ c := by omega
    by_cases h1 : c < n
    · rw [decide_eq_true (show (0 ≤ c ∧ c < n) from ⟨h0', h1⟩)]
      have hd : decide (c < (n : Int)) = true := decide_eq_true h1
      go_enter Tryz.func83, Tryz.ntmps83
      go_wp2
      go_ret
      exact ⟨rfl, rfl⟩
    · rw [decide_eq_false (show ¬ (0 ≤ c ∧ c < n) by omega)]
      have hd : decide (c < (n : Int)) = false := decide_eq_false h1
      go_enter Tryz.func83, Tryz.ntmps83
      go_wp2
      go_ret
      exact ⟨rfl, rfl⟩
section
variable {w : World} {a : Adr} {L : List (List (Array Value))} {R : Nat}
end
end Go.Proofs.YtpanmfdbdgecaaaGreat.C

namespace Go.Proofs.YtpanmfdbdgecaaaGreat.C
open Go.RowKit
set_option linter.unusedVariables false
/-- Where Push stands when a place has been taken. -/
structure PB (w0 w : World) (a : Adr) (L : List (List (Array Value))) (R : Nat) (A : List (Option (Array Value))) (fl : List Nat) (Q : List (List Nat)) (x : Array Value) : Prop where
  amg : Amg a.bs w0 w
  ptr : w.heap[a.sb]? = some (.cells #[.pointer (some ⟨a.ps, 0, none⟩), .pointer (some ⟨a.pb, 0, none⟩), .slice (some ⟨a.bb, 0, none⟩) L.length L.length] 224 (0, 0))
  slab : PS.Slab w a.ps a.pr A fl
  chain : CH.Chain w a.pb a.b1 a.b2 Q R
  bytes : w.heap[a.bb]? = some (.cells (bytesV L).toArray 2 (0, 0))
  box : w.heap[w0.heap.size]? = some (.cells x 68 (0, 0))
theorem pb_of {w w3 w4 : World} {a : Adr} {L : List (List (Array Value))} {R : Nat} {A A' : List (Option (Array Value))} {fl fl' : List Nat} {Q : List (List Nat)} {x : Array Value} (h : StAt w a L R A fl Q) (hb : Below w.heap.size w w3) (hx : w3.heap[w.heap.size]? = some (.cells x 68 (0, 0))) (hs : PS.Slab w4 a.ps a.pr A' fl') (ht : Two a.ps a.pr w3 w4) : PB w w4 a L R A' fl' Q x := by
  have h3 := h.below hb
  obtain ⟨⟨e1, e2, e3, e4, e5, e6⟩, ⟨f1, f2, f3, f4, f5⟩, ⟨g1, g2, g3, g4⟩, ⟨i1, i2, i3⟩, j1, j2, j3⟩ := h.ne
  obtain ⟨k1, k2, k3, k4, k5, k6, k7⟩ := h.lt
  have hA4 : Amg a.bs w w4 := (Amg.of_below hb).trans (Amg.of_two ht (by simp [Adr.bs]) (by simp [Adr.bs]))
  refine ⟨hA4, hA4.keep h.ptr (by simp [Adr.bs, e1, e2, e4, e5, e6]), hs, chain_two h3.chain ht ⟨fun e => f2 e.symm, fun e => g1 e.symm⟩ ⟨fun e => f3 e.symm, fun e => g2 e.symm⟩ ⟨fun e => f4 e.symm, fun e => g3 e.symm⟩, ?_, ?_⟩
  · exact (ht.block a.bb (Array.getElem?_eq_some_iff.1 h3.bytes).1 (fun e => f5 e.symm) (fun e => g4 e.symm)).trans h3.bytes
  · exact (ht.block w.heap.size (Array.getElem?_eq_some_iff.1 hx).1 (fun e => by omega) (fun e => by omega)).trans hx
section
variable {w0 w : World} {a : Adr} {L : List (List (Array Value))} {R : Nat} {A A' : List (Option (Array Value))} {fl fl' : List Nat} {Q : List (List Nat)} {x : Array Value}
theorem PB.c2 (h : PB w0 w a L R A fl Q x) : w.cell? ⟨a.sb, 2, none⟩ = some (.slice (some ⟨a.bb, 0, none⟩) L.length L.length) := by rw [cell_of_row _ _ _ _ _ _ h.ptr]; rfl
theorem PB.byte (h : PB w0 w a L R A fl Q x) {c : Nat} {l : List (Array Value)} (hl : L[c]? = some l) : w.cell? ⟨a.bb, c, none⟩ = some (.int .i64 (sumL l)) := by
  rw [cell_of_row _ _ _ _ _ _ h.bytes, List.getElem?_toArray]
  exact bytesV_at hl
theorem PB.stored (h : PB w0 w a L R A' fl' Q x) (h0 : StAt w0 a L R A fl Q) (v : Value) (c : Nat) :
    (w.setCell ⟨a.bb, c, none⟩ v).drew.heap[a.sb]? = some (.cells #[.pointer (some ⟨a.ps, 0, none⟩), .pointer (some ⟨a.pb, 0, none⟩), .slice (some ⟨a.bb, 0, none⟩) L.length L.length] 224 (0, 0)) ∧
    PS.Slab (w.setCell ⟨a.bb, c, none⟩ v).drew a.ps a.pr A' fl' ∧ CH.Chain (w.setCell ⟨a.bb, c, none⟩ v).drew a.pb a.b1 a.b2 Q R ∧ Amg a.bs w0 (w.setCell ⟨a.bb, c, none⟩ v).drew := by
  obtain ⟨⟨e1, e2, e3, e4, e5, e6⟩, ⟨f1, f2, f3, f4, f5⟩, ⟨g1, g2, g3, g4⟩, ⟨i1, i2, i3⟩, j1, j2, j3⟩ := h0.ne
  have ht : Two a.bb a.bb w (w.setCell ⟨a.bb, c, none⟩ v).drew := ((Two.refl a.bb a.bb w).setCell (x := ⟨a.bb, c, none⟩) (.inl rfl) v).drewN 1
  refine ⟨?_, h.slab.two ht f5 f5 g4 g4, chain_two h.chain ht ⟨i3, i3⟩ ⟨j2, j2⟩ ⟨j3, j3⟩, h.amg.trans (Amg.of_two ht (by simp [Adr.bs]) (by simp [Adr.bs]))⟩
  show (w.setCell ⟨a.bb, c, none⟩ v).heap[a.sb]? = _
  rw [heap_setCell_other _ _ _ _ (by simpa using e6)]
  exact h.ptr
end
/-- What the taking of a place reads. -/
structure KB (bx : Nat) (a : Adr) (L : List (List (Array Value))) (x : Array Value) (w : World) : Prop where
  ptr : w.heap[a.sb]? = some (.cells #[.pointer (some ⟨a.ps, 0, none⟩), .pointer (some ⟨a.pb, 0, none⟩), .slice (some ⟨a.bb, 0, none⟩) L.length L.length] 224 (0, 0))
  box : w.heap[bx]? = some (.cells x 68 (0, 0))
theorem KB.c0 {bx : Nat} {a : Adr} {L : List (List (Array Value))} {x : Array Value} {w : World} (h : KB bx a L x w) : w.cell? ⟨a.sb, 0, none⟩ = some (.pointer (some ⟨a.ps, 0, none⟩)) := by rw [cell_of_row _ _ _ _ _ _ h.ptr]; rfl
section
variable {w : World} {a : Adr} {L : List (List (Array Value))} {R : Nat}
set_option maxRecDepth 100000 in
set_option maxHeartbeats 400000 in
theorem push_yes (c : Nat) (n : Int) (x : Array Value) (l : List (Array Value)) (h : Sto w a L R) (hx : PkL x n) (hl : L[c]? = some l) (hn : 1 ≤ n ∧ n ≤ 9216) (hf : total L < R) :
    Calls Tryz.prog 99 #[.pointer (some ⟨a.sb, 0, none⟩), .int .i64 (c : Nat), .agg x] w fun e w' => e = .returned (.bool true) ∧ Sto w' a (L.set c (l ++ [x])) R ∧ Amg a.bs w w' := by
  obtain ⟨A, fl, Q, h⟩ := h
  obtain ⟨l1, l2, l3⟩ := h.len
  have hc := lt_of_some hl
  obtain ⟨i, r, rfl⟩ : ∃ i r, fl = i :: r := by
    cases fl with
    | nil => have := h.lk.cnt; simp at this; omega
    | cons i r => exact ⟨i, r, rfl⟩
  have hi : A[i]? = some none := (h.slab.mem i).1 (by simp)
  have hiR : i < R := by have := lt_of_some hi; have := h.lk.lenA; omega
  obtain ⟨q, hq, _⟩ := h.lk.line hl
  have hfree : ∀ (c' : Nat) (q' : List Nat), Q[c']? = some q' → i ∉ q' := fun c' q' hq' => h.lk.free hi hq'
  have hlk := h.lk.push hi hq hl (x := x) (by rw [hx.lenP]; exact hn)
  have hs := sumL_bound l (h.lk.ok l (List.mem_of_getElem? hl))
  have hll := total_le L l (List.mem_of_getElem? hl)
  have hsum : sumL (l ++ [x]) = sumL l + n := by rw [sumL_append, hx.lenP]
  have C := Lib.hid (fun w' (p : Below w.heap.size w w') => has_st a (c : Nat) L.length w' (h.below p).c2 (by omega))
  rw [decide_eq_true (show 0 ≤ (c : Int) ∧ (c : Int) < L.length by omega)] at C
  have CT := Lib.hid (fun w' (p : Below w.heap.size w w') => PS.s_take_yes i r x (h.below p).slab hx.pk)
  have hne := h.ne
  have hlt := h.lt
  have hsl : 0 ≤ sumL l ∧ sumL l ≤ 37748736 := by omega
  obtain ⟨s1, s2⟩ := hsl
  have HH := Lib.hid h
  have HL := Lib.hid hx.len
  have HPK := Lib.hid hx.pk
  have HLK := Lib.hid hlk
  have HSU := Lib.hid hsum
  have HLL := Lib.hid hl
  have HQQ := Lib.hid hq
  have HFR := Lib.hid hfree
  have HNE := Lib.hid hne
  have HLT := Lib.hid hlt
  obtain ⟨n1, n2⟩ := hn
  have hcn : (c : Int) < (L.length : Int) := by omega
  clear h hf hx hlk hsum hs hl hq hfree hne hlt hi
  go_enter Tryz.func99, Tryz.ntmps99
  go_upto_region 1 with ((with_reducible refine arm_box 5 2 68 x ?_ ?_); rfl; intro w1 HB HX HS)
  have hcell : w1.cell? ⟨w.heap.size, 45, none⟩ = some (.int .i64 n) := by rw [cell_of_row _ _ _ _ _ _ HX.out]; exact HL.out
  go_wp2_with fail
  refine (C.out _ HB.out).mono ?_
  rintro e w2 ⟨rfl, rfl⟩
  have HF : Hid (∀ w', Below w.heap.size w w' → w'.cell? ⟨a.sb, 0, none⟩ = some (.pointer (some ⟨a.ps, 0, none⟩))) := fun w' hb => (HH.out.below hb).c0
  have hlt := (Array.getElem?_eq_some_iff.1 HX.out).1
  have HN := Lib.hid (fun w3 w4 => pb_of (w3 := w3) (w4 := w4) (x := x) (A' := A.set i (some x)) (fl' := r) HH.out)
  have HK2 : Hid (KB w.heap.size a L x w2.drew) := ⟨(HH.out.below HB.out).ptr, HX.out⟩
  go_wp2_with fail
  refine wp_region_held_drew (S := KB w.heap.size a L x) (by kernel_rfl) HK2.out (fun hHeld => ?_)
  refine wpAnyH_take (i := 0) (oi := ⟨some 24, _, _, _, _, _⟩) (v := ?_) rfl (by kernel_rfl) (by kernel_rfl) (by kernel_rfl) (fun _ _ _ h => h) (Or.inl ⟨by rfl, ?_⟩) hHeld ?_
  rotate_left
  · intro w hSw
    go_simp
    try with_reducible rfl
  try simp only [Act.put, List.setIfInBounds_toArray, List.set_cons_zero, List.set_cons_succ]
  refine wpAnyH_take (i := 1) (oi := ⟨some 25, _, _, _, _, _⟩) (v := ?_) rfl (by kernel_rfl) (by kernel_rfl) (by kernel_rfl) (fun _ _ _ h => h) (Or.inl ⟨by rfl, ?_⟩) hHeld ?_
  rotate_left
  · intro w hSw
    go_simp
    try with_reducible rfl
  try simp only [Act.put, List.setIfInBounds_toArray, List.set_cons_zero, List.set_cons_succ]
  refine wpAnyH_take (i := 2) (oi := ⟨some 26, _, _, _, _, _⟩) (v := ?_) rfl (by kernel_rfl) (by kernel_rfl) (by kernel_rfl) (fun _ _ _ h => h) (Or.inl ⟨by rfl, ?_⟩) hHeld ?_
  rotate_left
  · intro w hSw
    go_simp
    try with_reducible rfl
  try simp only [Act.put, List.setIfInBounds_toArray, List.set_cons_zero, List.set_cons_succ]
  refine wpAnyH_take (i := 3) (oi := ⟨some 27, _, _, _, _, _⟩) (v := ?_) rfl (by kernel_rfl) (by kernel_rfl) (by kernel_rfl) (fun _ _ _ h => h) (Or.inl ⟨by rfl, ?_⟩) hHeld ?_
  rotate_left
  · intro w hSw
    obtain k0 := hSw.c0
    go_simp
    try with_reducible rfl
  try simp only [Act.put, List.setIfInBounds_toArray, List.set_cons_zero, List.set_cons_succ]
  refine wpAnyH_take (i := 4) (oi := ⟨some 28, _, _, _, _, _⟩) (v := (.agg x)) rfl (by kernel_rfl) (by kernel_rfl) (by kernel_rfl) (fun _ _ _ h => h) (Or.inl ⟨by rfl, fun w hSw => exec_load rfl (pkt_load hSw.box HPK.out)⟩) hHeld ?_
  try simp only [Act.put, List.setIfInBounds_toArray, List.set_cons_zero, List.set_cons_succ]
  refine wpAnyH_ready (rs := [5]) (by kernel_rfl) (by simp) ?_
  refine AllReadyH.cons rfl (fun K hK => ?_) AllReadyH.nil
  go_simp
  go_wp2_with (go_at_call 151; go_must (refine (CT.out _ HB.out.drew).mono ?_; rintro e w5 ⟨rfl, hS5, hT5⟩))
  refine hK.out _ _ (⟨(HN.out _ _ HB.out.drew HX.out hS5 hT5).ptr, (HN.out _ _ HB.out.drew HX.out hS5 hT5).box⟩) (fun hHeld => ?_)
  clear hK K
  refine wpAnyH_take (i := 6) (oi := ⟨some 23, _, _, _, _, _⟩) (v := ?_) rfl (by kernel_rfl) (by kernel_rfl) (by kernel_rfl) (fun _ _ _ h => h) (Or.inl ⟨by rfl, ?_⟩) hHeld ?_
  rotate_left
  · intro w hSw
    go_simp
    try with_reducible rfl
  try simp only [Act.put, List.setIfInBounds_toArray, List.set_cons_zero, List.set_cons_succ]
  refine wpAnyH_take (i := 7) (oi := ⟨some 30, _, _, _, _, _⟩) (v := ?_) rfl (by kernel_rfl) (by kernel_rfl) (by kernel_rfl) (fun _ _ _ h => h) (Or.inl ⟨by rfl, ?_⟩) hHeld ?_
  rotate_left
  · intro w hSw
    go_simp
    try with_reducible rfl
  try simp only [Act.put, List.setIfInBounds_toArray, List.set_cons_zero, List.set_cons_succ]
  refine wpAnyH_take (i := 8) (oi := ⟨some 31, _, _, _, _, _⟩) (v := ?_) rfl (by kernel_rfl) (by kernel_rfl) (by kernel_rfl) (fun _ _ _ h => h) (Or.inl ⟨by rfl, ?_⟩) hHeld ?_
  rotate_left
  · intro w hSw
    go_simp
    try with_reducible rfl
  try simp only [Act.put, List.setIfInBounds_toArray, List.set_cons_zero, List.set_cons_succ]
  refine wpAnyH_take (i := 9) (oi := ⟨some 7, _, _, _, _, _⟩) (v := ?_) rfl (by kernel_rfl) (by kernel_rfl) (by kernel_rfl) (fun _ _ _ h => h) (Or.inl ⟨by rfl, ?_⟩) hHeld ?_
  rotate_left
  · intro w hSw
    go_simp
    try with_reducible rfl
  try simp only [Act.put, List.setIfInBounds_toArray, List.set_cons_zero, List.set_cons_succ]
  refine wpAnyH_take (i := 10) (oi := ⟨some 8, _, _, _, _, _⟩) (v := ?_) rfl (by kernel_rfl) (by kernel_rfl) (by kernel_rfl) (fun _ _ _ h => h) (Or.inl ⟨by rfl, ?_⟩) hHeld ?_
  rotate_left
  · intro w hSw
    go_simp
    try with_reducible rfl
  try simp only [Act.put, List.setIfInBounds_toArray, List.set_cons_zero, List.set_cons_succ]
  refine wpAnyH_done (by kernel_rfl) ?_ _
  have HP5 := Lib.hid (HN.out _ _ HB.out.drew HX.out hS5 hT5)
  have c2 := HP5.out.c2
  have hby := HP5.out.byte HLL.out
  have hfz : w5.frozen? ⟨a.bb, c, none⟩ = false := frozen_of_row _ _ _ _ _ HP5.out.bytes
  have hcell5 : w5.cell? ⟨w.heap.size, 45, none⟩ = some (.int .i64 n) := by rw [cell_of_row _ _ _ _ _ _ HP5.out.box]; exact HL.out
  have hwn : IntKind.i64.wrap (sumL l + n) = sumL l + n := IntWalk.i64_in _ (by omega)
  have CPU := Lib.hid (fun w' (hch : CH.Chain w' a.pb a.b1 a.b2 Q R) => CH.c_push hch HQQ.out hiR HFR.out)
  have HBS := Lib.hid (show (w5.setCell ⟨a.bb, c, none⟩ (.int .i64 (sumL (l ++ [x])))).drew.heap[a.bb]? = _ from bytes_store (L := L) (a := a) (w := w5) HP5.out.bytes (c := c) (l ++ [x]))
  rw [HSU.out] at HBS
  generalize sumL l = sl at *
  have HSL := Lib.hid hll
  clear CT C hS5 hT5 hHeld HN HF hcell HK2 hlt HB HX HS hll
  go_wp2_with fail
  refine wp_region_still_tail 11 (by kernel_rfl) (by kernel_rfl) ?_
  change wpStill _ _ w5.drew (fun a' => wpList _ _ _ _ a' w5.drew) _ _
  simp only [List.take_succ_cons, List.take_zero, List.drop_succ_cons, List.drop_zero]
  iterate 11 still_step
  refine wpStill_nil ?_
  have h6 := HP5.out.stored HH.out (.int .i64 (sl + n)) c
  go_upto_region 7 with (fail)
  clear hby hcell5 c2
  generalize (w5.setCell ⟨a.bb, c, none⟩ (.int .i64 (sl + n))).drew = w6 at *
  have c1 : w6.cell? ⟨a.sb, 1, none⟩ = some (.pointer (some ⟨a.pb, 0, none⟩)) := by rw [cell_of_row _ _ _ _ _ _ h6.1]; rfl
  have H6 := Lib.hid h6
  clear h6 hfz hwn
  go_wp2_with fail
  refine (CPU.out _ H6.out.2.2.1).mono ?_
  rintro e w7 ⟨rfl, hC7, hT7⟩
  have hF : Sto w7 a (L.set c (l ++ [x])) R ∧ Amg a.bs w w7 := by
    obtain ⟨⟨e1, e2, e3, e4, e5, e6⟩, ⟨f1, f2, f3, f4, f5⟩, ⟨g1, g2, g3, g4⟩, ⟨i1, i2, i3⟩, j1, j2, j3⟩ := HNE.out
    obtain ⟨q1, q2, q3, q4⟩ := H6.out
    refine ⟨⟨_, _, _, ?_, q2.two hT7 f3 f4 g2 g3, hC7, ?_, HLK.out⟩, q4.trans (Amg.of_two hT7 (by simp [Adr.bs]) (by simp [Adr.bs]))⟩
    · rw [List.length_set]
      exact (hT7.block a.sb (Array.getElem?_eq_some_iff.1 q1).1 e4 e5).trans q1
    · exact (hT7.block a.bb (Array.getElem?_eq_some_iff.1 HBS.out).1 (fun e => j2 e.symm) (fun e => j3 e.symm)).trans HBS.out
  have HFF := Lib.hid hF
  clear hC7 hT7 hF
  go_wp2
  go_ret
  exact ⟨rfl, HFF.out⟩
end
end Go.Proofs.YtpanmfdbdgecaaaGreat.C

namespace Go.Proofs.YtpanmfdbdgecaaaGreat.C
namespace CH
open Go.RowKit
/-- The k-th of a line is in that line. -/
theorem Chain.line_at {w : World} {pb b1 b2 m : Nat} {Q : List (List Nat)} (h : Chain w pb b1 b2 Q m) {l k p : Nat} {q : List Nat} (hq : Q[l]? = some q) (hp : q[k]? = some p) : lineQ Q (p : Nat) = l := by
  obtain ⟨ln, lk, _, h2, rfl, h4, h5⟩ := h
  rcases lineQ_cases Q p with ⟨k', p', q', e, hq', hp', hl⟩ | ⟨_, hn⟩
  · obtain rfl : p = p' := by omega
    rw [hl, h2.one hq' hq hp' (List.mem_of_getElem? hp)]
  · exact absurd (List.mem_of_getElem? hp) (hn l p q rfl hq)
end CH
end Go.Proofs.YtpanmfdbdgecaaaGreat.C

namespace Go.Proofs.YtpanmfdbdgecaaaGreat.C
open Go.RowKit
set_option linter.unusedVariables false
/-- A store between two of its steps. -/
structure Mid (w0 w : World) (a : Adr) (L : List (List (Array Value))) (R : Nat) (A : List (Option (Array Value))) (fl : List Nat) (Q : List (List Nat)) : Prop where
  amg : Amg a.bs w0 w
  ptr : w.heap[a.sb]? = some (.cells #[.pointer (some ⟨a.ps, 0, none⟩), .pointer (some ⟨a.pb, 0, none⟩), .slice (some ⟨a.bb, 0, none⟩) L.length L.length] 224 (0, 0))
  slab : PS.Slab w a.ps a.pr A fl
  chain : CH.Chain w a.pb a.b1 a.b2 Q R
  bytes : w.heap[a.bb]? = some (.cells (bytesV L).toArray 2 (0, 0))
  lt0 : a.sb < w0.heap.size ∧ a.ps < w0.heap.size ∧ a.pr < w0.heap.size ∧ a.pb < w0.heap.size ∧ a.b1 < w0.heap.size ∧ a.b2 < w0.heap.size ∧ a.bb < w0.heap.size
section
variable {w0 w w' : World} {a : Adr} {L : List (List (Array Value))} {R : Nat} {A A' : List (Option (Array Value))} {fl fl' : List Nat} {Q Q' : List (List Nat)}
theorem Mid.start (h : StAt w0 a L R A fl Q) : Mid w0 w0 a L R A fl Q := ⟨Amg.refl _ _, h.ptr, h.slab, h.chain, h.bytes, h.lt⟩
theorem Mid.ne (h : Mid w0 w a L R A fl Q) : (a.sb ≠ a.ps ∧ a.sb ≠ a.pr ∧ a.sb ≠ a.pb ∧ a.sb ≠ a.b1 ∧ a.sb ≠ a.b2 ∧ a.sb ≠ a.bb) ∧ (a.ps ≠ a.pr ∧ a.ps ≠ a.pb ∧ a.ps ≠ a.b1 ∧ a.ps ≠ a.b2 ∧ a.ps ≠ a.bb) ∧ (a.pr ≠ a.pb ∧ a.pr ≠ a.b1 ∧ a.pr ≠ a.b2 ∧ a.pr ≠ a.bb) ∧ (a.pb ≠ a.b1 ∧ a.pb ≠ a.b2 ∧ a.pb ≠ a.bb) ∧ a.b1 ≠ a.b2 ∧ a.b1 ≠ a.bb ∧ a.b2 ≠ a.bb := by
  obtain ⟨_, _, l, hS, _⟩ := h.slab
  obtain ⟨ln, lk, hC, _⟩ := h.chain
  refine ⟨⟨ne_ty h.ptr hS.ptr (by decide), ne_ty h.ptr hS.row (by decide), ne_ty h.ptr hC.ptr (by decide), ne_ty h.ptr hC.r1 (by decide), ne_ty h.ptr hC.r2 (by decide), ne_ty h.ptr h.bytes (by decide)⟩,
    ⟨ne_ty hS.ptr hS.row (by decide), ne_ty hS.ptr hC.ptr (by decide), ne_ty hS.ptr hC.r1 (by decide), ne_ty hS.ptr hC.r2 (by decide), ne_ty hS.ptr h.bytes (by decide)⟩,
    ⟨ne_ty hS.row hC.ptr (by decide), ne_ty hS.row hC.r1 (by decide), ne_ty hS.row hC.r2 (by decide), ne_ty hS.row h.bytes (by decide)⟩,
    ⟨ne_ty hC.ptr hC.r1 (by decide), ne_ty hC.ptr hC.r2 (by decide), ne_ty hC.ptr h.bytes (by decide)⟩, ne_ty hC.r1 hC.r2 (by decide), ne_ty hC.r1 h.bytes (by decide), ne_ty hC.r2 h.bytes (by decide)⟩
theorem Mid.below (h : Mid w0 w a L R A fl Q) (p : Below w.heap.size w w') : Mid w0 w' a L R A fl Q :=
  ⟨h.amg.trans (Amg.of_below p), keep_block p h.ptr, h.slab.below p, h.chain.below p, keep_block p h.bytes, h.lt0⟩
theorem Mid.drewN (h : Mid w0 w a L R A fl Q) (n : Nat) : Mid w0 (w.drewN n) a L R A fl Q := h.below (below_drewN (Below.refl _ _) n)
theorem Mid.lines (h : Mid w0 w a L R A fl Q) (hc : CH.Chain w' a.pb a.b1 a.b2 Q' R) (p : Two a.b1 a.b2 w w') : Mid w0 w' a L R A fl Q' := by
  obtain ⟨⟨e1, e2, e3, e4, e5, e6⟩, ⟨f1, f2, f3, f4, f5⟩, ⟨g1, g2, g3, g4⟩, ⟨i1, i2, i3⟩, j1, j2, j3⟩ := h.ne
  exact ⟨h.amg.trans (Amg.of_two p (by simp [Adr.bs]) (by simp [Adr.bs])), (p.block a.sb (Array.getElem?_eq_some_iff.1 h.ptr).1 e4 e5).trans h.ptr, h.slab.two p f3 f4 g2 g3, hc,
    (p.block a.bb (Array.getElem?_eq_some_iff.1 h.bytes).1 (fun e => j2 e.symm) (fun e => j3 e.symm)).trans h.bytes, h.lt0⟩
theorem Mid.places (h : Mid w0 w a L R A fl Q) (hs : PS.Slab w' a.ps a.pr A' fl') (p : Two a.ps a.pr w w') : Mid w0 w' a L R A' fl' Q := by
  obtain ⟨⟨e1, e2, e3, e4, e5, e6⟩, ⟨f1, f2, f3, f4, f5⟩, ⟨g1, g2, g3, g4⟩, ⟨i1, i2, i3⟩, j1, j2, j3⟩ := h.ne
  exact ⟨h.amg.trans (Amg.of_two p (by simp [Adr.bs]) (by simp [Adr.bs])), (p.block a.sb (Array.getElem?_eq_some_iff.1 h.ptr).1 e1 e2).trans h.ptr, hs, chain_two h.chain p ⟨fun e => f2 e.symm, fun e => g1 e.symm⟩ ⟨fun e => f3 e.symm, fun e => g2 e.symm⟩ ⟨fun e => f4 e.symm, fun e => g3 e.symm⟩,
    (p.block a.bb (Array.getElem?_eq_some_iff.1 h.bytes).1 (fun e => f5 e.symm) (fun e => g4 e.symm)).trans h.bytes, h.lt0⟩
theorem Mid.fresh {b : Nat} (h : Mid w0 w a L R A fl Q) (hb : w0.heap.size ≤ b) (p : Two b b w w') : Mid w0 w' a L R A fl Q := by
  obtain ⟨k1, k2, k3, k4, k5, k6, k7⟩ := h.lt0
  have ha : Amg a.bs w0 w' := ⟨p.os.trans h.amg.os, p.tape.trans h.amg.tape, p.output.trans h.amg.output, Nat.le_trans h.amg.size p.size, fun k hk hn => (p.block k (Nat.lt_of_lt_of_le hk h.amg.size) (by omega) (by omega)).trans (h.amg.block k hk hn)⟩
  exact ⟨ha, (p.block a.sb (Array.getElem?_eq_some_iff.1 h.ptr).1 (by omega) (by omega)).trans h.ptr, h.slab.two p (by omega) (by omega) (by omega) (by omega), chain_two h.chain p ⟨by omega, by omega⟩ ⟨by omega, by omega⟩ ⟨by omega, by omega⟩,
    (p.block a.bb (Array.getElem?_eq_some_iff.1 h.bytes).1 (by omega) (by omega)).trans h.bytes, h.lt0⟩
theorem Mid.byteSet (h : Mid w0 w a L R A fl Q) (c : Nat) (l : List (Array Value)) : Mid w0 (w.setCell ⟨a.bb, c, none⟩ (.int .i64 (sumL l))) a (L.set c l) R A fl Q := by
  obtain ⟨⟨e1, e2, e3, e4, e5, e6⟩, ⟨f1, f2, f3, f4, f5⟩, ⟨g1, g2, g3, g4⟩, ⟨i1, i2, i3⟩, j1, j2, j3⟩ := h.ne
  have p : Two a.bb a.bb w (w.setCell ⟨a.bb, c, none⟩ (.int .i64 (sumL l))) := (Two.refl a.bb a.bb w).setCell (x := ⟨a.bb, c, none⟩) (.inl rfl) _
  exact ⟨h.amg.trans (Amg.of_two p (by simp [Adr.bs]) (by simp [Adr.bs])), by rw [List.length_set]; exact (p.block a.sb (Array.getElem?_eq_some_iff.1 h.ptr).1 e6 e6).trans h.ptr, h.slab.two p f5 f5 g4 g4, chain_two h.chain p ⟨i3, i3⟩ ⟨j2, j2⟩ ⟨j3, j3⟩, bytes_store h.bytes l, h.lt0⟩
theorem Mid.done (h : Mid w0 w a L R A fl Q) (hl : Linked A Q L fl R) : Sto w a L R ∧ Amg a.bs w0 w := ⟨⟨A, fl, Q, h.ptr, h.slab, h.chain, h.bytes, hl⟩, h.amg⟩
theorem Mid.c0 (h : Mid w0 w a L R A fl Q) : w.cell? ⟨a.sb, 0, none⟩ = some (.pointer (some ⟨a.ps, 0, none⟩)) := by rw [cell_of_row _ _ _ _ _ _ h.ptr]; rfl
theorem Mid.c1 (h : Mid w0 w a L R A fl Q) : w.cell? ⟨a.sb, 1, none⟩ = some (.pointer (some ⟨a.pb, 0, none⟩)) := by rw [cell_of_row _ _ _ _ _ _ h.ptr]; rfl
theorem Mid.c2 (h : Mid w0 w a L R A fl Q) : w.cell? ⟨a.sb, 2, none⟩ = some (.slice (some ⟨a.bb, 0, none⟩) L.length L.length) := by rw [cell_of_row _ _ _ _ _ _ h.ptr]; rfl
theorem Mid.byte (h : Mid w0 w a L R A fl Q) {c : Nat} {l : List (Array Value)} (hl : L[c]? = some l) : w.cell? ⟨a.bb, c, none⟩ = some (.int .i64 (sumL l)) := by
  rw [cell_of_row _ _ _ _ _ _ h.bytes, List.getElem?_toArray]
  exact bytesV_at hl
theorem Mid.bfr (h : Mid w0 w a L R A fl Q) (c : Nat) : w.frozen? ⟨a.bb, c, none⟩ = false := frozen_of_row _ _ _ _ _ h.bytes
end
section
variable {w : World} {a : Adr} {L : List (List (Array Value))} {R : Nat}
theorem build_zero (w : World) : (Instr.build 68 #[]).run Tryz.prog w = .ok (.agg PZ) w := run_build w 68 #[] PZ pz_built
set_option maxRecDepth 100000 in
set_option maxHeartbeats 800000 in
theorem st_cut_yes (c k : Nat) (n : Int) (x : Array Value) (l : List (Array Value)) (h : Sto w a L R) (hx : x[45]? = some (.int .i64 n)) (hl : L[c]? = some l) (hk : l[k]? = some x) :
    Calls Tryz.prog 136 #[.pointer (some ⟨a.sb, 0, none⟩), .int .i64 (c : Nat), .int .i64 (k : Nat)] w fun e w' => e = .returned (.tuple #[.agg x, .bool true]) ∧ Sto w' a (L.set c (l.eraseIdx k)) R ∧ Amg a.bs w w' := by
  obtain ⟨A, fl, Q, h⟩ := h
  obtain ⟨l1, l2, l3⟩ := h.len
  have hc := lt_of_some hl
  have hkl := lt_of_some hk
  obtain ⟨q, hq, hql⟩ := h.lk.line hl
  obtain ⟨p, hp⟩ : ∃ p, q[k]? = some p := ⟨_, List.getElem?_eq_getElem (by omega)⟩
  have hA : A[p]? = some (some x) := by
    obtain ⟨l', x', h1, h2, h3⟩ := h.lk.at_ hq hp
    rw [hl] at h1
    injection h1 with h1
    subst h1
    rw [hk] at h2
    injection h2 with h2
    rw [h2]
    exact h3
  have hpk := h.slab.pk hA
  have hlen : lenP x = n := by unfold lenP; rw [hx]
  have hlk := h.lk.cut hq hp hl (h.chain.nodup hq).1 fun c' q' hq' hm => by
    obtain ⟨k', hk'⟩ := List.getElem?_of_mem hm
    have e1 := h.chain.line_at hq' hk'
    have e2 := h.chain.line_at hq hp
    omega
  have hokx := h.lk.ok l (List.mem_of_getElem? hl) x (List.mem_of_getElem? hk)
  rw [hlen] at hokx
  obtain ⟨n1, n2⟩ := hokx
  have hs := sumL_bound l (h.lk.ok l (List.mem_of_getElem? hl))
  have hll := total_le L l (List.mem_of_getElem? hl)
  have hsum : sumL (l.eraseIdx k) = sumL l - n := by rw [sumL_erase l k x hk, hlen]
  have C := Lib.hid (fun w' (p : Below w.heap.size w w') => has_st a (c : Nat) L.length w' (h.below p).c2 (by omega))
  rw [decide_eq_true (show 0 ≤ (c : Int) ∧ (c : Int) < L.length by omega)] at C
  have CC := Lib.hid (fun w' (hh : Mid w w' a L R A fl Q) => CH.c_cut hh.chain hq hp)
  have CG := Lib.hid (fun w' Q' (hh : Mid w w' a L R A fl Q') => PS.s_give_yes (p : Nat) x hh.slab (by rw [getA_nat, hA]; rfl))
  simp only [Int.toNat_natCast] at CG
  have hsl : 0 ≤ sumL l ∧ sumL l ≤ 37748736 := by omega
  obtain ⟨s1, s2⟩ := hsl
  have hMid := Mid.start h
  have HM := Lib.hid hMid
  have HL := Lib.hid hx
  have HPK := Lib.hid hpk
  have HLK := Lib.hid hlk
  have HSU := Lib.hid hsum
  have HLL := Lib.hid hl
  have hcn : (c : Int) < (L.length : Int) := by omega
  clear h hx hlk hsum hs hl hq hA hpk hlen hk hkl hp hMid hll
  go_enter Tryz.func136, Tryz.ntmps136
  go_upto_region 1 with ((with_reducible refine arm_alloc 6 68 PZ 46 pz_zero ?_); intro w1 HB HX HS)
  have HM1 := Lib.hid (HM.out.below HB.out)
  have c1 := HM1.out.c1
  go_wp2_with fail
  refine (C.out _ HB.out).mono ?_
  rintro e w2 ⟨rfl, rfl⟩
  go_wp2_with fail
  refine (CC.out _ HM1.out).mono ?_
  rintro e w3 ⟨rfl, hC3, hT3⟩
  have HM3 := Lib.hid (HM1.out.lines hC3 hT3)
  have HX3 := Lib.hid ((hT3.block w.heap.size (Array.getElem?_eq_some_iff.1 HX.out).1 (fun e => by have := HM.out.lt0; omega) (fun e => by have := HM.out.lt0; omega)).trans HX.out)
  clear c1 HM1 hC3 hT3 HX HB HS C CC
  have c0 := HM3.out.c0
  go_wp2_with fail
  refine (CG.out _ _ HM3.out).mono ?_
  rintro e w4 ⟨rfl, hS4, hT4⟩
  have HM4 := Lib.hid (HM3.out.places hS4 hT4)
  have HX4 := Lib.hid ((hT4.block w.heap.size (Array.getElem?_eq_some_iff.1 HX3.out).1 (fun e => by have := HM.out.lt0; omega) (fun e => by have := HM.out.lt0; omega)).trans HX3.out)
  clear c0 HM3 HX3 hS4 hT4 CG
  go_upto_region 7 with (first
    | ((with_reducible refine arm_alloc 10 68 PZ 46 pz_zero ?_); intro w5 HB5 HX5 HS5; have hst := pkt_store HX5.out HPK.out)
    | ((with_reducible refine arm_store 10 36 68 (.pointer (some ⟨w4.heap.size, 0, none⟩)) (.agg x) _ hst ?_ ?_ ?_); rfl; rfl))
  clear hst
  have hsz4 := HM4.out.amg.size
  have hlt4 := (Array.getElem?_eq_some_iff.1 HX4.out).1
  have hT6 : Two w4.heap.size w4.heap.size w5 (w5.setCells w4.heap.size 0 x.toList) := Two.setCells (.inl rfl) _ _ (Two.refl _ _ _)
  have hbx6 := box_whole HX5.out (cs := x) HPK.out.size
  have hM6 := (HM4.out.below HB5.out).fresh hsz4 hT6
  have hX6 := (hT6.block w.heap.size (by have := HB5.out.size; omega) (by omega) (by omega)).trans (keep_block HB5.out HX4.out)
  clear HM4 HX4 HB5 HX5 HS5 hT6
  generalize w5.setCells w4.heap.size 0 x.toList = w6 at *
  generalize w4.heap.size = b4 at *
  have c2 := hM6.c2
  have hby := hM6.byte HLL.out
  have hfz := hM6.bfr c
  have hcell : w6.cell? ⟨b4, 45, none⟩ = some (.int .i64 n) := by rw [cell_of_row _ _ _ _ _ _ hbx6]; exact HL.out
  have hM7 := (hM6.drewN 1).byteSet c (l.eraseIdx k)
  rw [HSU.out] at hM7
  have HM7 : Hid (Mid w (w6.setCell ⟨a.bb, c, none⟩ (.int .i64 (sumL l - n))).drew a (L.set c (l.eraseIdx k)) R (A.set p none) (p :: fl) (Q.set c (q.eraseIdx k))) := hM7
  have hne4 : b4 ≠ a.bb ∧ w.heap.size ≠ a.bb := ⟨fun e => by have := HM.out.lt0; omega, fun e => by have := HM.out.lt0; omega⟩
  have HX7 : Hid ((w6.setCell ⟨a.bb, c, none⟩ (.int .i64 (sumL l - n))).drew.heap[w.heap.size]? = some (.cells PZ 68 (0, 0))) := (heap_setCell_other _ ⟨a.bb, c, none⟩ _ _ (by simpa using hne4.2)).trans hX6
  have HY7 : Hid ((w6.setCell ⟨a.bb, c, none⟩ (.int .i64 (sumL l - n))).drew.heap[b4]? = some (.cells x 68 (0, 0))) := (heap_setCell_other _ ⟨a.bb, c, none⟩ _ _ (by simpa using hne4.1)).trans hbx6
  have hwn : IntKind.i64.wrap (sumL l - n) = sumL l - n := IntWalk.i64_in _ (by omega)
  clear hM6 hX6 hbx6 hM7 hne4 HM
  generalize sumL l = sl at *
  go_wp2_with fail
  refine wp_region_still_tail 11 (by kernel_rfl) (by kernel_rfl) ?_
  change wpStill _ _ w6.drew (fun a' => wpList _ _ _ _ a' w6.drew) _ _
  simp only [List.take_succ_cons, List.take_zero, List.drop_succ_cons, List.drop_zero]
  iterate 11 still_step
  refine wpStill_nil ?_
  go_upto_region 8 with (fail)
  clear c2 hby hfz hcell hwn
  generalize (w6.setCell ⟨a.bb, c, none⟩ (.int .i64 (sl - n))).drew = w7 at *
  have hld := pkt_load HY7.out HPK.out
  have hst := pkt_store HX7.out HPK.out
  go_wp2_with (first
    | ((with_reducible refine arm_load 49 10 68 (.pointer (some ⟨b4, 0, none⟩)) (.agg x) hld ?_ ?_); rfl)
    | ((with_reducible refine arm_store 6 49 68 (.pointer (some ⟨w.heap.size, 0, none⟩)) (.agg x) _ hst ?_ ?_ ?_); rfl; rfl))
  have hbx := box_whole HX7.out (cs := x) HPK.out.size
  refine bodyPost_ret (res_row_tmp rfl _ _ _ _ _ _ _ rfl hbx Tryz.underlying68 rfl (by rw [pkt_size, HPK.out.size])) rfl ?_
  exact ⟨rfl, (HM7.out.fresh (Nat.le_refl _) (Two.setCells (.inl rfl) _ _ (Two.refl _ _ _))).done HLK.out⟩
end
end Go.Proofs.YtpanmfdbdgecaaaGreat.C

namespace Go.Proofs.YtpanmfdbdgecaaaGreat.C
open Go.RowKit
set_option linter.unusedVariables false
theorem lenP_cell {x : Array Value} (h : lenP x ≠ 0) : x[45]? = some (.int .i64 (lenP x)) := by
  unfold lenP at h ⊢
  split at h
  · rename_i n hn
    rw [hn]
  · exact absurd rfl h
/-- A class's k-th packet. -/
def atS (L : List (List (Array Value))) (c k : Int) : Option (Array Value) := if 0 ≤ c ∧ 0 ≤ k then (match L[c.toNat]? with | some l => l[k.toNat]? | none => none) else none
theorem atS_some {L : List (List (Array Value))} {c k : Nat} {l : List (Array Value)} (hl : L[c]? = some l) : atS L (c : Nat) (k : Nat) = l[k]? := by
  unfold atS
  rw [if_pos (by omega)]
  simp [hl]
theorem atS_cases (L : List (List (Array Value))) (c k : Int) : (∃ (c' k' : Nat) (l : List (Array Value)) (x : Array Value), c = c' ∧ k = k' ∧ L[c']? = some l ∧ l[k']? = some x ∧ atS L c k = some x) ∨ (atS L c k = none ∧ ∀ (c' k' : Nat) (l : List (Array Value)), c = c' → k = k' → L[c']? = some l → l[k']? = none) := by
  by_cases h : 0 ≤ c ∧ 0 ≤ k
  · obtain ⟨c, rfl⟩ := Int.eq_ofNat_of_zero_le h.1
    obtain ⟨k, rfl⟩ := Int.eq_ofNat_of_zero_le h.2
    cases hl : L[c]? with
    | none =>
      refine .inr ⟨by unfold atS; rw [if_pos h]; simp [hl], ?_⟩
      intro c' k' l e1 e2 hl'
      obtain rfl : c = c' := by omega
      rw [hl] at hl'; cases hl'
    | some l =>
      cases hx : l[k]? with
      | none =>
        refine .inr ⟨by rw [atS_some hl, hx], ?_⟩
        intro c' k' l' e1 e2 hl'
        obtain rfl : c = c' := by omega
        obtain rfl : k = k' := by omega
        rw [hl] at hl'
        injection hl' with hl'
        subst hl'
        exact hx
      | some x => exact .inl ⟨c, k, l, x, rfl, rfl, hl, hx, by rw [atS_some hl, hx]⟩
  · refine .inr ⟨by unfold atS; rw [if_neg h], ?_⟩
    intro c' k' l e1 e2 _
    omega
section
variable {w : World} {a : Adr} {L : List (List (Array Value))} {R : Nat}
/-- Nothing in the lists: nothing in the lines. -/
theorem StAt.none_at {A : List (Option (Array Value))} {fl : List Nat} {Q : List (List Nat)} (h : StAt w a L R A fl Q) {c k : Int} (hn : ∀ (c' k' : Nat) (l : List (Array Value)), c = c' → k = k' → L[c']? = some l → l[k']? = none) :
    ∀ (l k' : Nat) (q : List Nat), c = l → k = k' → Q[l]? = some q → q[k']? = none := by
  intro c' k' q e1 e2 hq
  cases hp : q[k']? with
  | none => rfl
  | some p =>
    obtain ⟨l, x, hl, hx, _⟩ := h.lk.at_ hq hp
    rw [hn c' k' l e1 e2 hl] at hx
    cases hx
set_option maxRecDepth 100000 in
theorem st_at (c k : Int) (h : Sto w a L R) :
    Calls Tryz.prog 44 #[.pointer (some ⟨a.sb, 0, none⟩), .int .i64 c, .int .i64 k] w fun e w' => e = .returned (.tuple #[.agg ((atS L c k).getD PZ), .bool (atS L c k).isSome]) ∧ Below w.heap.size w w' := by
  obtain ⟨A, fl, Q, h⟩ := h
  have hlen := h.len
  have C := Lib.hid (fun w' (p : Below w.heap.size w w') => has_st a c L.length w' (h.below p).c2 (by omega))
  rcases atS_cases L c k with ⟨c, k, l, x, rfl, rfl, hl, hx, he⟩ | ⟨he, hn⟩
  · rw [he]
    have hc := lt_of_some hl
    have hkl := lt_of_some hx
    obtain ⟨q, hq, hql⟩ := h.lk.line hl
    obtain ⟨p, hp⟩ : ∃ p, q[k]? = some p := ⟨_, List.getElem?_eq_getElem (by omega)⟩
    have hA : A[p]? = some (some x) := by
      obtain ⟨l', x', h1, h2, h3⟩ := h.lk.at_ hq hp
      rw [hl] at h1
      injection h1 with h1
      subst h1
      rw [hx] at h2
      injection h2 with h2
      rw [h2]
      exact h3
    rw [decide_eq_true (show 0 ≤ (c : Int) ∧ (c : Int) < L.length by omega)] at C
    have CA := Lib.hid (fun w' (p' : Below w.heap.size w w') => CH.c_at (h.below p').chain hq hp)
    have CG := Lib.hid (fun w' (p' : Below w.heap.size w w') => PS.s_get_yes (p : Nat) x (h.below p').slab (by rw [getA_nat, hA]; rfl))
    have HPK := Lib.hid (h.slab.pk hA)
    have HH := Lib.hid h
    clear h hl hx he hq hp hA hlen hql hkl
    go_enter Tryz.func44, Tryz.ntmps44
    go_upto_region 1 with ((with_reducible refine arm_alloc 6 68 PZ 46 pz_zero ?_); intro w1 HB HX HS)
    have c1 := (HH.out.below HB.out).c1
    go_wp2_with fail
    refine (C.out _ HB.out).mono ?_
    rintro e w2 ⟨rfl, rfl⟩
    go_wp2_with fail
    refine (CA.out _ HB.out).mono ?_
    rintro e w3 ⟨rfl, d, hw3⟩
    have hB3 : Below w.heap.size w w3 := by rw [hw3]; exact below_drewN HB.out d
    have HX3 : Hid (w3.heap[w.heap.size]? = some (.cells PZ 68 (0, 0))) := by rw [hw3]; exact Lib.hid HX.out
    have c0 := (HH.out.below hB3).c0
    have HB3 := Lib.hid hB3
    clear c1 hw3 hB3 HX HB HS
    go_wp2_with fail
    refine (CG.out _ HB3.out).mono ?_
    rintro e w4 ⟨rfl, hB4⟩
    have HX4 := Lib.hid (keep_block hB4 HX3.out)
    have HB4 := Lib.hid (HB3.out.trans (hB4.mono HB3.out.size))
    have hst := pkt_store HX4.out HPK.out
    clear c0 hB4 HX3 HB3
    go_wp2_with ((with_reducible refine arm_store 6 34 68 (.pointer (some ⟨w.heap.size, 0, none⟩)) (.agg x) _ hst ?_ ?_ ?_); rfl; rfl)
    have hbx := box_whole HX4.out (cs := x) HPK.out.size
    refine bodyPost_ret (res_row_tmp rfl _ _ _ _ _ _ _ rfl hbx Tryz.underlying68 rfl (by rw [pkt_size, HPK.out.size])) rfl ?_
    exact ⟨rfl, below_setCells (Nat.le_refl _) _ _ HB4.out⟩
  · rw [he]
    by_cases hc : 0 ≤ c ∧ c < L.length
    · rw [decide_eq_true hc] at C
      have CA := Lib.hid (fun w' (p' : Below w.heap.size w w') => CH.c_at_no c k (h.below p').chain (h.none_at hn))
      have HH := Lib.hid h
      clear h hn he hlen hc
      go_enter Tryz.func44, Tryz.ntmps44
      go_upto_region 1 with ((with_reducible refine arm_alloc 6 68 PZ 46 pz_zero ?_); intro w1 HB HX HS)
      have c1 := (HH.out.below HB.out).c1
      have hst := pkt_store HX.out pk_zero
      go_wp2_with fail
      refine (C.out _ HB.out).mono ?_
      rintro e w2 ⟨rfl, rfl⟩
      go_wp2_with fail
      refine (CA.out _ HB.out).mono ?_
      rintro e w3 ⟨rfl, d, hw3⟩
      have hB3 : Below w.heap.size w w3 := by rw [hw3]; exact below_drewN HB.out d
      have HX3 : Hid (w3.heap[w.heap.size]? = some (.cells PZ 68 (0, 0))) := by rw [hw3]; exact Lib.hid HX.out
      have hst := pkt_store HX3.out pk_zero
      have HB3 := Lib.hid hB3
      have hbl := build_zero w3
      clear c1 hw3 hB3 HX HB HS
      go_wp2_with (first
        | ((with_reducible refine arm_build 27 68 #[] #[] (.agg PZ) hbl ?_ ?_); rfl)
        | ((with_reducible refine arm_store 6 27 68 (.pointer (some ⟨w.heap.size, 0, none⟩)) (.agg PZ) _ hst ?_ ?_ ?_); rfl; rfl))
      have hbx := box_whole HX3.out (cs := PZ) rfl
      refine bodyPost_ret (res_row_tmp rfl _ _ _ _ _ _ _ rfl hbx Tryz.underlying68 rfl pkt_size) rfl ?_
      exact ⟨rfl, below_setCells (Nat.le_refl _) _ _ HB3.out⟩
    · rw [decide_eq_false hc] at C
      clear h hn he hlen hc
      go_enter Tryz.func44, Tryz.ntmps44
      go_upto_region 1 with ((with_reducible refine arm_alloc 6 68 PZ 46 pz_zero ?_); intro w1 HB HX HS)
      have hst := pkt_store HX.out pk_zero
      go_wp2_with fail
      refine (C.out _ HB.out).mono ?_
      rintro e w2 ⟨rfl, rfl⟩
      have hbl := build_zero w2
      go_wp2_with (first
        | ((with_reducible refine arm_build 14 68 #[] #[] (.agg PZ) hbl ?_ ?_); rfl)
        | ((with_reducible refine arm_store 6 14 68 (.pointer (some ⟨w.heap.size, 0, none⟩)) (.agg PZ) _ hst ?_ ?_ ?_); rfl; rfl))
      have hbx := box_whole HX.out (cs := PZ) rfl
      refine bodyPost_ret (res_row_tmp rfl _ _ _ _ _ _ _ rfl hbx Tryz.underlying68 rfl pkt_size) rfl ?_
      exact ⟨rfl, below_setCells (Nat.le_refl _) _ _ HB.out⟩
theorem st_len (c : Nat) (l : List (Array Value)) (h : Sto w a L R) (hl : L[c]? = some l) :
    Calls Tryz.prog 43 #[.pointer (some ⟨a.sb, 0, none⟩), .int .i64 (c : Nat)] w fun e w' => e = .returned (.int .i64 (l.length : Nat)) ∧ w' = w := by
  obtain ⟨A, fl, Q, h⟩ := h
  have hlen := h.len
  have hc := lt_of_some hl
  have C := Lib.hid (has_st a (c : Nat) L.length w h.c2 (by omega))
  rw [decide_eq_true (show 0 ≤ (c : Int) ∧ (c : Int) < L.length by omega)] at C
  obtain ⟨q, hq, hql⟩ := h.lk.line hl
  have CL := Lib.hid (CH.c_len h.chain hq)
  rw [hql] at CL
  have c1 := h.c1
  generalize l.length = n at *
  clear h hl hlen hc hql hq
  go_enter Tryz.func43, Tryz.ntmps43
  go_wp2_with fail
  refine C.out.mono ?_
  rintro e w1 ⟨rfl, rfl⟩
  go_wp2_with fail
  refine CL.out.mono ?_
  rintro e w1 ⟨rfl, rfl⟩
  go_wp2
  go_ret
  exact ⟨rfl, rfl⟩
theorem st_len_no (c : Int) (h : Sto w a L R) (hc : ¬ (0 ≤ c ∧ c < L.length)) :
    Calls Tryz.prog 43 #[.pointer (some ⟨a.sb, 0, none⟩), .int .i64 c] w fun e w' => e = .returned (.int .i64 0) ∧ w' = w := by
  obtain ⟨A, fl, Q, h⟩ := h
  have hlen := h.len
  have C := Lib.hid (has_st a c L.length w h.c2 (by omega))
  rw [decide_eq_false hc] at C
  clear h hlen hc
  go_enter Tryz.func43, Tryz.ntmps43
  go_wp2_with fail
  refine C.out.mono ?_
  rintro e w1 ⟨rfl, rfl⟩
  go_wp2
  go_ret
  exact ⟨rfl, rfl⟩
end
end Go.Proofs.YtpanmfdbdgecaaaGreat.C
