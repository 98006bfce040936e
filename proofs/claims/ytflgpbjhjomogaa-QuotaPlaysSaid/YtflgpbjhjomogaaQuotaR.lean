/- The walks of the reference's quota (a value). -/
import Derived.Test.YtflgpbjhjomogaaBackP
import Derived.Test.YtflgpbjhjomogaaFlat
import Derived.Deep.AppendLies
import Derived.Deep.RegionHeld
import Derived.Deep.QuietTactic
import Derived.BigQuiet
import Derived.OneCell
namespace Go.Proofs.Ytflgpbjhjomogaa.C
open Go.RowKit
set_option linter.unusedVariables false
/-- A list of numbers, as cells. -/
def vals (l : List Int) : List Value := l.map (Value.int .i64 ·)
theorem vals_length (l : List Int) : (vals l).length = l.length := by simp [vals]
theorem vals_at (l : List Int) (c : Nat) : (vals l)[c]? = (l[c]?).map (Value.int .i64 ·) := by simp [vals]
theorem vals_set (l : List Int) (c : Nat) (x : Int) : (vals l).set c (.int .i64 x) = vals (l.set c x) := by simp [vals, List.map_set]
/-- The reference's value. -/
@[reducible] def rv (g cap n : Nat) (r m : Int) : Value := .agg #[.slice (some ⟨g, 0, none⟩) n cap, .int .i64 r, .int .i64 m]
/-- Its numbers in memory. -/
def RAt (w : World) (base g cap : Nat) (l : List Int) : Prop := w.ownsRow base 2 1 (.slice (some ⟨g, 0, none⟩) l.length cap) l.length (vals l)
theorem RAt.at_ {w : World} {base g cap : Nat} {l : List Int} (h : RAt w base g cap l) {c : Nat} {x : Int} (hx : l[c]? = some x) : w.cell? ⟨g, c, none⟩ = some (.int .i64 x) := by
  have hc : c < l.length := by
    rcases Nat.lt_or_ge c l.length with h | h
    · exact h
    · rw [List.getElem?_eq_none h] at hx; cases hx
  rw [h.cellAt c (by omega), vals_at, hx]
  rfl
theorem RAt.lt {w : World} {base g cap : Nat} {l : List Int} (h : RAt w base g cap l) : base ≤ g ∧ g < w.heap.size := World.ownsRow.lt h g rfl
theorem RAt.below {w w' : World} {base g cap : Nat} {l : List Int} (h : RAt w base g cap l) (p : Below w.heap.size w w') : RAt w' base g cap l := by
  refine World.ownsRow.kept (row := none) h ⟨p.os, p.tape, p.output, p.size, fun k hk _ => p.block k hk⟩ (by simp [Value.ownBlock])
theorem RAt.two {w w' : World} {base g cap x y : Nat} {l : List Int} (h : RAt w base g cap l) (p : Two x y w w') (hx : x < base) (hy : y < base) : RAt w' base g cap l := by
  have hl := h.lt
  refine ⟨h.1, ?_⟩
  rcases h.2 with ⟨h0, _⟩ | ⟨q, cp, cur, hv, hg, hh, r⟩
  · cases h0
  · injection hv with hv1 hv2 hv3
    injection hv1 with hv1
    injection hv1 with hv1
    subst hv1
    exact .inr ⟨g, cp, cur, by rw [hv3], hg, (p.block g hl.2 (by omega) (by omega)).trans hh, r⟩
theorem int_info : (Try.prog.info? 2).map (fun i => (i.zero, i.size, i.bytes)) = some (some (.int .i64 0), 1, 8) := by kernel_rfl
theorem rhas_any (base g cap n : Nat) (r m c : Int) (l : List Int) (w : World) (hl : n ≤ 65536) (hn : n = l.length) :
    Calls Try.prog 31 #[rv g cap n r m, .int .i64 c] w fun e w' => e = .returned (.bool (hasB l c)) ∧ Below w.heap.size w w' := by
  have hb : hasB l c = (decide (0 ≤ c) && decide (c < (n : Int))) := by unfold hasB; rw [hn]
  rw [hb]
  clear hb hn
  by_cases h0 : 0 ≤ c
  · go_enter Try.func31, Try.ntmps31
    go_wp2
    go_ret
    exact ⟨by simp [h0], (Below.refl _ _).alloc (Nat.le_refl _) _⟩
  · go_enter Try.func31, Try.ntmps31
    go_wp2
    go_ret
    exact ⟨by rw [decide_eq_false (show ¬ 0 ≤ c by omega)]; rfl, (Below.refl _ _).alloc (Nat.le_refl _) _⟩
theorem RAt.alloc {w : World} {base g cap : Nat} {l : List Int} (h : RAt w base g cap l) (o : Obj) : RAt (w.alloc o) base g cap l := World.ownsRow.alloc h o
/-- What lies in a box that was made ahead. -/
theorem box_cell {w w1 : World} {cs : Array Value} {t : TypeId} (hB : Below (w.alloc (.cells cs t)).heap.size (w.alloc (.cells cs t)) w1) (j : Nat) : w1.cell? ⟨w.heap.size, j, none⟩ = cs[j]? := by
  rw [cell_of_row _ _ _ _ _ _ ((hB.block _ (by simp)).trans (heap_alloc_new w _))]
theorem rbytes_any (base g cap : Nat) (r m c : Int) (l : List Int) (w : World) (h : RAt w base g cap l) (hl : l.length ≤ 65536) :
    Calls Try.prog 27 #[rv g cap l.length r m, .int .i64 c] w fun e w' => e = .returned (.int .i64 (bytesQ l c)) ∧ Below w.heap.size w w' := by
  have C := Lib.hid (fun w' => rhas_any base g cap l.length r m c l w' hl rfl)
  cases hb : hasB l c with
  | false =>
    rw [hb] at C
    have hq : bytesQ l c = 0 := by unfold bytesQ; rw [hb]; rfl
    rw [hq]
    clear hq hb h
    generalize l.length = n at *
    go_enter Try.func27, Try.ntmps27
    go_wp2_with fail
    refine (C.out _).mono ?_
    rintro e w1 ⟨rfl, hB⟩
    go_wp2
    go_ret
    exact ⟨rfl, ((Below.refl _ _).alloc (Nat.le_refl _) _).trans (hB.mono (by simp))⟩
  | true =>
    rw [hb] at C
    obtain ⟨h0, h1⟩ := hasB_in hb
    obtain ⟨c, rfl⟩ := Int.eq_ofNat_of_zero_le h0
    obtain ⟨x, hx⟩ : ∃ x, l[c]? = some x := ⟨_, List.getElem?_eq_getElem (by simpa using h1)⟩
    have hq : bytesQ l (c : Nat) = x := by unfold bytesQ; rw [hb, if_pos rfl, List.getD_eq_getElem?_getD, Int.toNat_natCast, hx]; rfl
    have HW : Hid (∀ w' : World, Below (w.alloc (.cells #[.slice (some ⟨g, 0, none⟩) l.length cap, .int .i64 r, .int .i64 m] 52)).heap.size (w.alloc (.cells #[.slice (some ⟨g, 0, none⟩) l.length cap, .int .i64 r, .int .i64 m] 52)) w' → w'.cell? ⟨g, c, none⟩ = some (.int .i64 x)) := fun w' hB => ((h.alloc _).below hB).at_ hx
    have hlc : c < l.length := by simpa using h1
    rw [hq]
    clear hq hb h hx h0 h1
    generalize l.length = n at *
    go_enter Try.func27, Try.ntmps27
    go_wp2_with fail
    refine (C.out _).mono ?_
    rintro e w1 ⟨rfl, hB⟩
    have hc2 := HW.out w1 hB
    have hc3 : w1.cell? ⟨w.heap.size, 0, none⟩ = some (.slice (some ⟨g, 0, none⟩) n cap) := box_cell hB 0
    go_wp2
    go_ret
    exact ⟨rfl, ((Below.refl _ _).alloc (Nat.le_refl _) _).trans (hB.mono (by simp))⟩
theorem own_empty {W : World} {base b : Nat} {e : TypeId} {size : Nat} (h : W.heap[b]? = some (.cells #[] e (0, 0))) (hb : base ≤ b) : W.ownsRow base e size (.slice (some ⟨b, 0, none⟩) 0 0) 0 [] :=
  ⟨by simp, .inr ⟨b, 0, #[], rfl, hb, h, Nat.le_refl _, by simp [maxLen], by simp, by simp⟩⟩
section
variable (w : World) (o1 o2 o3 : Obj)
theorem alloc3_size : (((w.alloc o1).alloc o2).alloc o3).heap.size = w.heap.size + 3 := by simp
theorem alloc3_old (q : Nat) (h : q < w.heap.size) : (((w.alloc o1).alloc o2).alloc o3).heap[q]? = w.heap[q]? := by
  rw [Go.heap_alloc_old _ _ (by simp; omega), Go.heap_alloc_old _ _ (by simp; omega), Go.heap_alloc_old _ _ h]
theorem alloc3_0 : (((w.alloc o1).alloc o2).alloc o3).heap[w.heap.size]? = some o1 := by
  rw [Go.heap_alloc_old _ _ (by simp; omega), Go.heap_alloc_old _ _ (by simp), heap_alloc_new]
theorem alloc3_1 : (((w.alloc o1).alloc o2).alloc o3).heap[w.heap.size + 1]? = some o2 := by
  have := heap_alloc_new (w.alloc o1) o2
  rw [show (w.alloc o1).heap.size = w.heap.size + 1 by simp] at this
  rw [Go.heap_alloc_old _ _ (by simp), this]
end
/-- A result of three cells that was stored. -/
theorem box3 {W : World} {b : Nat} {t : TypeId} {u0 u1 u2 : Value} (h : W.heap[b]? = some (.cells #[u0, u1, u2] t (0, 0))) (v0 v1 v2 : Value) :
    (((W.setCell ⟨b, 0, none⟩ v0).setCell ⟨b, 1, none⟩ v1).setCell ⟨b, 2, none⟩ v2).heap[b]? = some (.cells #[v0, v1, v2] t (0, 0)) := by
  have h0 := heap_setCell_same _ _ 0 _ _ v0 h
  have h1 := heap_setCell_same _ _ 1 _ _ v1 h0
  have h2 := heap_setCell_same _ _ 2 _ _ v2 h1
  simpa using h2
set_option maxRecDepth 100000 in
theorem rwith_ok (base g cap : Nat) (r m k x : Int) (c : Nat) (l : List Int) (w : World) (h : RAt w base g cap l) (hl : l.length ≤ 65536) (hx : l[c]? = some x) (hw : IntKind.i64.wrap (x + k) = x + k) :
    Calls Try.prog 32 #[rv g cap l.length r m, .int .i64 (c : Nat), .int .i64 k] w fun e w' => ∃ g' cap', e = .returned (rv g' cap' l.length r m) ∧ RAt w' base g' cap' (l.set c (x + k)) ∧ Below w.heap.size w w' := by
  obtain ⟨i0, hi, hz0, hz1, hz2⟩ := info_parts int_info
  have Hi := Lib.hid hi
  have Hz0 := Lib.hid hz0
  have Hz1 := Lib.hid hz1
  have Hz2 := Lib.hid hz2
  have hlt := h.lt
  have hbw : base ≤ w.heap.size := by omega
  have hc : c < l.length := by
    rcases Nat.lt_or_ge c l.length with h | h
    · exact h
    · rw [List.getElem?_eq_none h] at hx; cases hx
  generalize hO1 : (Obj.cells #[Value.slice (some ⟨g, 0, none⟩) l.length cap, .int .i64 r, .int .i64 m] 52) = O1
  generalize hO2 : (Obj.cells #[Value.slice none 0 0, .int .i64 0, .int .i64 0] 52) = O2
  have HO : Hid ((((w.alloc O1).alloc O2).alloc (.cells #[] 2)).ownsRow base 2 1 (.slice (some ⟨w.heap.size + 1 + 1, 0, none⟩) 0 0) 0 []) := own_empty (by have := heap_alloc_new ((w.alloc O1).alloc O2) (.cells #[] 2); simpa using this) (by omega)
  have HR : Hid (RAt (((w.alloc O1).alloc O2).alloc (.cells #[] 2)) base g cap l) := ((h.alloc _).alloc _).alloc _
  have HN : Hid ((vals l).length = l.length * 1) := by simp [Hid, vals]
  subst hO1 hO2
  have HX := Lib.hid hx
  clear hi hz0 hz1 hz2 h hx
  generalize hn : l.length = n at *
  have HNN := Lib.hid hn
  clear hn
  go_enter Try.func32, Try.ntmps32
  go_wp2_with (at_builtin; go_must (refine wpList_append_lies _ rfl (.tmp 8) (.tmp 10) 50 rfl base 2 i0 (.int .i64 0) 1 8 Try.underlying50 Hi.out Hz0.out Hz1.out Hz2.out rfl (by omega) (.slice (some ⟨w.heap.size + 1 + 1, 0, none⟩) 0 0) 0 [] rfl HO.out ⟨g, 0, none⟩ n cap (vals l) rfl HN.out ?_ ?_ ?_ ?_ ?_ ?_ (w.heap.size + 3) (by simp) ?_))
  · intro j u hu
    rw [vals_at] at hu
    cases hj : l[j]? with
    | none => rw [hj] at hu; cases hu
    | some y =>
      rw [hj] at hu
      injection hu with hu
      subst hu
      have := HR.out.at_ hj
      rw [show (⟨g, 0, none⟩ : Addr).add j = ⟨g, j, none⟩ by unfold Addr.add; split <;> simp_all]
      exact this
  · intro u hu
    obtain ⟨z, _, rfl⟩ := List.mem_map.1 hu
    rfl
  · omega
  · simp only [maxLen]; omega
  · omega
  · simp; omega
  · intro g' cap' w3 hown hg hat hlt3
    have hg3 : w.heap.size + 2 ≤ g' := by
      rcases hat with h | h
      · simp [Value.ownBlock] at h; omega
      · omega
    have hn1 : (some (w.heap.size) : Option Nat) ≠ (Value.slice (some ⟨w.heap.size + 1 + 1, 0, none⟩) 0 0).ownBlock := by simp [Value.ownBlock]; omega
    have hn2 : (some (w.heap.size + 1) : Option Nat) ≠ (Value.slice (some ⟨w.heap.size + 1 + 1, 0, none⟩) 0 0).ownBlock := by simp [Value.ownBlock]
    have b1 : w3.heap[w.heap.size]? = some (.cells #[Value.slice (some ⟨g, 0, none⟩) n cap, .int .i64 r, .int .i64 m] 52 (0, 0)) := by
      rw [hg.block _ (by rw [alloc3_size]; omega) hn1, alloc3_0]
    have b2 : w3.heap[w.heap.size + 1]? = some (.cells #[Value.slice none 0 0, .int .i64 0, .int .i64 0] 52 (0, 0)) := by
      rw [hg.block _ (by rw [alloc3_size]; omega) hn2, alloc3_1]
    have hB3 : Below w.heap.size w w3 := ⟨hg.os, hg.tape, hg.output, by have := hg.size; rw [alloc3_size] at this; omega, fun q hq => by
      rw [hg.block q (by rw [alloc3_size]; omega) (by simp [Value.ownBlock]; omega), alloc3_old _ _ _ _ _ hq]⟩
    have hcell : w3.cell? ⟨g', c, none⟩ = some (.int .i64 x) := by rw [hown.cellAt c (by omega), vals_at, HX.out]; rfl
    have hst := hown.stored c (.int .i64 (x + k))
    rw [vals_set] at hst
    have hfz := hown.frozenAt c
    have HST := Lib.hid hst
    have a1 : w3.cell? ⟨w.heap.size, 1, none⟩ = some (.int .i64 r) := by rw [cell_of_row _ _ _ _ _ _ b1]; rfl
    have a2 : w3.cell? ⟨w.heap.size, 2, none⟩ = some (.int .i64 m) := by rw [cell_of_row _ _ _ _ _ _ b1]; rfl
    have c0 : w3.cell? ⟨w.heap.size + 1, 0, none⟩ = some (.slice none 0 0) := by rw [cell_of_row _ _ _ _ _ _ b2]; rfl
    have c1 : w3.cell? ⟨w.heap.size + 1, 1, none⟩ = some (.int .i64 0) := by rw [cell_of_row _ _ _ _ _ _ b2]; rfl
    have c2 : w3.cell? ⟨w.heap.size + 1, 2, none⟩ = some (.int .i64 0) := by rw [cell_of_row _ _ _ _ _ _ b2]; rfl
    have f0 : ∀ j, w3.frozen? ⟨w.heap.size + 1, j, none⟩ = false := fun j => frozen_of_row _ _ _ _ _ b2
    have f0' := f0 0
    have f1' := f0 1
    have f2' := f0 2
    have ne1 : ¬ g' = w.heap.size := by omega
    have ne2 : ¬ g' = w.heap.size + 1 := by omega
    have ne3 : ¬ w.heap.size = g' := by omega
    have ne4 : ¬ w.heap.size + 1 = g' := by omega
    have HB2 := Lib.hid b2
    clear hg hat hown hst b1 b2 hn1 hn2 f0
    go_wp2
    have hbox := box3 (W := w3.setCell ⟨g', c, none⟩ (.int .i64 (x + k))) (b := w.heap.size + 1) ((heap_setCell_other _ _ _ _ (fun e => ne4 e)).trans HB2.out) (.slice (some ⟨g', 0, none⟩) n cap') (.int .i64 r) (.int .i64 m)
    (try simp only [Exit.inBlock, Exit.then])
    refine bodyPost_ret (results_cell_row rfl _ _ _ _ _ _ _ rfl hbox Try.underlying52 rfl rfl) rfl ?_
    refine ⟨g', cap', rfl, ?_, ?_⟩
    · have hne : (Value.slice (some ⟨g', 0, none⟩) n cap').ownBlock ≠ some (w.heap.size + 1) := by simp [Value.ownBlock]; omega
      have h0 := ownsRow_setCell_other HST.out.1 (a := ⟨w.heap.size + 1, 0, none⟩) hne (.slice (some ⟨g', 0, none⟩) n cap')
      have h1 := ownsRow_setCell_other h0 (a := ⟨w.heap.size + 1, 1, none⟩) hne (.int .i64 r)
      have h2 := ownsRow_setCell_other h1 (a := ⟨w.heap.size + 1, 2, none⟩) hne (.int .i64 m)
      unfold RAt
      rw [List.length_set, HNN.out]
      exact h2
    · refine Below.setCell (Below.setCell (Below.setCell (Below.setCell hB3 ?_ _) ?_ _) ?_ _) ?_ _
      all_goals (simp; try omega)
end Go.Proofs.Ytflgpbjhjomogaa.C
