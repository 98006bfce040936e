/- The walks of the reference's chains: with, New, At, Line. -/
import Derived.Test.YtgcfiiidhihkaaaChainR
namespace Go.Proofs.Ytgcfiiidhihkaaa.C
open Go.RowKit
set_option linter.unusedVariables false
theorem row_info : (Try.prog.info? 35).map (fun i => (i.zero, i.size, i.bytes)) = some (some (.slice none 0 0), 1, 24) := by kernel_rfl
section
variable (w : World) (o1 o2 o3 : Obj)
theorem alloc3_size : (((w.alloc o1).alloc o2).alloc o3).heap.size = w.heap.size + 3 := by simp
theorem alloc3_old (q : Nat) (h : q < w.heap.size) : (((w.alloc o1).alloc o2).alloc o3).heap[q]? = w.heap[q]? := by
  rw [Go.heap_alloc_old _ _ (by simp; omega), Go.heap_alloc_old _ _ (by simp; omega), Go.heap_alloc_old _ _ h]
theorem alloc3_0 : (((w.alloc o1).alloc o2).alloc o3).heap[w.heap.size]? = some o1 := by
  rw [Go.heap_alloc_old _ _ (by simp; omega), Go.heap_alloc_old _ _ (by simp), Go.heap_alloc_new]
theorem alloc3_1 : (((w.alloc o1).alloc o2).alloc o3).heap[w.heap.size + 1]? = some o2 := by
  have := Go.heap_alloc_new (w.alloc o1) o2
  rw [show (w.alloc o1).heap.size = w.heap.size + 1 by simp] at this
  rw [Go.heap_alloc_old _ _ (by simp), this]
end
/-- A result of two cells that was stored. -/
theorem box2 {W : World} {b : Nat} {t : TypeId} {u0 u1 : Value} (h : W.heap[b]? = some (.cells #[u0, u1] t (0, 0))) (v0 v1 : Value) :
    ((W.setCell ⟨b, 0, none⟩ v0).setCell ⟨b, 1, none⟩ v1).heap[b]? = some (.cells #[v0, v1] t (0, 0)) := by
  have h0 := heap_setCell_same _ _ 0 _ _ v0 h
  have h1 := heap_setCell_same _ _ 1 _ _ v1 h0
  simpa using h1
theorem rc_one {v : Value} {w : World} {base n : Nat} {e : TypeId} {size : Nat} {xs : List Value} (h : w.ownsRow base e size v n xs) : v.oneCell' = true := by
  rcases h.2 with ⟨rfl, _⟩ | ⟨g, cap, cur, rfl, _⟩ <;> rfl
set_option maxRecDepth 100000 in
theorem rc_with (base g cap m l : Nat) (S : List Value) (Q : List (List Nat)) (q : List Nat) (x : Value) (w : World) (h : CR w base g cap S Q) (hx : w.ownsRow base 3 1 x q.length (natV q)) (hl : l < Q.length) (hQ : Q.length ≤ 129) :
    Calls Try.prog 61 #[cv g cap Q.length m, .int .i64 (l : Nat), x] w fun e w' => ∃ g' cap', e = .returned (cv g' cap' Q.length m) ∧ CR w' base g' cap' (S.set l x) (Q.set l q) ∧ Below w.heap.size w w' := by
  obtain ⟨i0, hi, hz0, hz1, hz2⟩ := info_parts row_info
  have Hi := Lib.hid hi
  have Hz0 := Lib.hid hz0
  have Hz1 := Lib.hid hz1
  have Hz2 := Lib.hid hz2
  have hlt := h.lt
  have hbw : base ≤ w.heap.size := by omega
  generalize hO1 : (Obj.cells #[Value.slice (some ⟨g, 0, none⟩) Q.length cap, .int .i64 (m : Nat)] 57) = O1
  generalize hO2 : (Obj.cells #[Value.slice none 0 0, .int .i64 0] 57) = O2
  have HO : Hid ((((w.alloc O1).alloc O2).alloc (.cells #[] 35)).ownsRow base 35 1 (.slice (some ⟨w.heap.size + 1 + 1, 0, none⟩) 0 0) 0 []) := own_empty (by have := Go.heap_alloc_new ((w.alloc O1).alloc O2) (.cells #[] 35); simpa using this) (by omega)
  have hA : Below w.heap.size w (((w.alloc O1).alloc O2).alloc (.cells #[] 35)) := (((Below.refl _ _).alloc (Nat.le_refl _) _).alloc (by simp) _).alloc (by simp; omega) _
  have HR := Lib.hid (h.below hA)
  have HXX := Lib.hid (own_below hx hA)
  subst hO1 hO2
  have HLEN := Lib.hid h.len
  have hS1 : ∀ u ∈ S, u.oneCell' = true := by
    intro u hu
    obtain ⟨j, hj⟩ := List.getElem?_of_mem hu
    have hjl : j < Q.length := by have := (List.getElem?_eq_some_iff.1 hj).1; have := h.len; omega
    obtain ⟨v, h1, h2⟩ := h.inner j _ (List.getElem?_eq_getElem hjl)
    rw [hj] at h1
    injection h1 with h1
    rw [h1]
    exact rc_one h2
  have HS1 := Lib.hid hS1
  have HH := Lib.hid h
  have HX0 := Lib.hid hx
  clear hi hz0 hz1 hz2 h hx hA hS1
  generalize hn : Q.length = n at *
  have HNN := Lib.hid hn
  clear hn
  go_enter Try.func61, Try.ntmps61
  go_wp2_with (at_builtin; go_must (refine wpList_append_lies _ rfl (.tmp 8) (.tmp 10) 55 rfl base 35 i0 (.slice none 0 0) 1 24 Try.underlying55 Hi.out Hz0.out Hz1.out Hz2.out rfl (by omega) (.slice (some ⟨w.heap.size + 1 + 1, 0, none⟩) 0 0) 0 [] rfl HO.out ⟨g, 0, none⟩ n cap S rfl ?_ ?_ HS1.out ?_ ?_ ?_ ?_ (w.heap.size + 3) (by simp) ?_))
  · have := HLEN.out; omega
  · intro j u hu
    have := HR.out.cell hu
    rw [show (⟨g, 0, none⟩ : Addr).add j = ⟨g, j, none⟩ by unfold Addr.add; split <;> simp_all]
    exact this
  · omega
  · simp only [maxLen]; omega
  · omega
  · simp; omega
  · intro g' cap' w3 hown hg hat hlt3
    have hg3 : w.heap.size + 2 ≤ g' := by
      rcases hat with h | h
      · simp [Value.ownBlock] at h; omega
      · omega
    have hn1 : (some (w.heap.size) : Option Nat) ≠ (Value.slice (some ⟨w.heap.size + 1 + 1, 0, none⟩) 0 0).ownBlock := by simp [Value.ownBlock]; omega
    have hn2 : (some (w.heap.size + 1) : Option Nat) ≠ (Value.slice (some ⟨w.heap.size + 1 + 1, 0, none⟩) 0 0).ownBlock := by simp [Value.ownBlock]
    have b1 : w3.heap[w.heap.size]? = some (.cells #[Value.slice (some ⟨g, 0, none⟩) n cap, .int .i64 (m : Nat)] 57 (0, 0)) := by
      rw [hg.block _ (by rw [alloc3_size]; omega) hn1, alloc3_0]
    have b2 : w3.heap[w.heap.size + 1]? = some (.cells #[Value.slice none 0 0, .int .i64 0] 57 (0, 0)) := by
      rw [hg.block _ (by rw [alloc3_size]; omega) hn2, alloc3_1]
    have hB3 : Below w.heap.size w w3 := ⟨hg.os, hg.tape, hg.output, by have := hg.size; rw [alloc3_size] at this; omega, fun q hq => by
      rw [hg.block q (by rw [alloc3_size]; omega) (by simp [Value.ownBlock]; omega), alloc3_old _ _ _ _ _ hq]⟩
    have hC3 : CR w3 base g' cap' S Q := ⟨by rw [HNN.out]; exact hown, fun l' q' hq' => by
      obtain ⟨v, h1, h2⟩ := HH.out.inner l' q' hq'
      exact ⟨v, h1, own_below h2 hB3⟩⟩
    have hst := hC3.stored (own_below HX0.out hB3) (by rw [HNN.out]; exact hl)
    obtain ⟨y, hy⟩ : ∃ y, S[l]? = some y := ⟨_, List.getElem?_eq_getElem (by have := HLEN.out; omega)⟩
    have hcell : w3.cell? ⟨g', l, none⟩ = some y := hC3.cell hy
    have hfz := hown.frozenAt l
    have HST := Lib.hid hst
    have a1 : w3.cell? ⟨w.heap.size, 1, none⟩ = some (.int .i64 (m : Nat)) := by rw [cell_of_row _ _ _ _ _ _ b1]; rfl
    have c0 : w3.cell? ⟨w.heap.size + 1, 0, none⟩ = some (.slice none 0 0) := by rw [cell_of_row _ _ _ _ _ _ b2]; rfl
    have c1 : w3.cell? ⟨w.heap.size + 1, 1, none⟩ = some (.int .i64 0) := by rw [cell_of_row _ _ _ _ _ _ b2]; rfl
    have f0' : w3.frozen? ⟨w.heap.size + 1, 0, none⟩ = false := frozen_of_row _ _ _ _ _ b2
    have f1' : w3.frozen? ⟨w.heap.size + 1, 1, none⟩ = false := frozen_of_row _ _ _ _ _ b2
    have ne0 : g' ≠ w.heap.size + 1 := by omega
    have ne1 : ¬ g' = w.heap.size := by omega
    have ne2 : ¬ g' = w.heap.size + 1 := by omega
    have ne3 : ¬ w.heap.size = g' := by omega
    have ne4 : ¬ w.heap.size + 1 = g' := by omega
    have HB2 := Lib.hid b2
    have HX1 := Lib.hid (rc_one HX0.out)
    obtain ⟨Ax, cx, hxv⟩ := own_slice HX0.out
    subst hxv
    clear hg hat hown hst b1 b2 hn1 hn2 hC3 hy
    go_wp2
    have hb0 : (w3.setCell ⟨g', l, none⟩ (.slice Ax q.length cx)).heap[w.heap.size + 1]? = some (.cells #[Value.slice none 0 0, .int .i64 0] 57 (0, 0)) := (heap_setCell_other _ _ _ _ (fun e => ne4 e)).trans HB2.out
    have hbox := box2 hb0 (.slice (some ⟨g', 0, none⟩) n cap') (.int .i64 (m : Nat))
    (try simp only [Exit.inBlock, Exit.then])
    refine bodyPost_ret (results_cell_row rfl _ _ _ _ _ _ _ rfl hbox Try.underlying57 rfl rfl) rfl ?_
    refine ⟨g', cap', rfl, ?_, ?_⟩
    · have h0 := HST.out.box (j := 0) hb0 (.slice (some ⟨g', 0, none⟩) n cap')
      have hb1 : ((w3.setCell ⟨g', l, none⟩ (.slice Ax q.length cx)).setCell ⟨w.heap.size + 1, 0, none⟩ (.slice (some ⟨g', 0, none⟩) n cap')).heap[w.heap.size + 1]? = some (.cells #[.slice (some ⟨g', 0, none⟩) n cap', .int .i64 0] 57 (0, 0)) := by
        have := heap_setCell_same _ _ 0 _ _ (.slice (some ⟨g', 0, none⟩) n cap') hb0
        simpa using this
      exact h0.box (j := 1) hb1 (.int .i64 (m : Nat))
    · refine Below.setCell (Below.setCell (Below.setCell hB3 ?_ _) ?_ _) ?_ _
      all_goals (simp; try omega)
theorem make_rows (n : Nat) (hn : n ≤ 65536) (W : World) : (Instr.makeSlice 55 (.int .i64 (n : Int)) (.int .i64 (n : Int))).run Try.prog W = .ok (.slice (some ⟨W.heap.size, 0, none⟩) n n) (W.alloc (.cells (List.replicate n (Value.slice none 0 0)).toArray 35)) := by
  obtain ⟨i0, hi, hz0, hz1, hz2⟩ := info_parts row_info
  have hr := run_make (P := Try.prog) W 55 35 i0 (.slice none 0 0) Try.underlying55 hi hz0 .i64 .i64 n n (by omega) (by omega) (by rw [hz2]; omega) (by omega)
  simp only [Int.toNat_natCast] at hr
  rw [hr, hz1, Nat.mul_one]
  have e : madeCells (Value.slice none 0 0).cells n = (List.replicate n (Value.slice none 0 0)).toArray := by
    apply Array.toList_inj.1
    show (madeCells #[Value.slice none 0 0] n).toList = _
    rw [toList_madeCells_one]
  rw [e]
set_option maxRecDepth 100000 in
theorem rc_new (n m : Nat) (w : World) (base : Nat) (hb : base ≤ w.heap.size) (h1 : 1 ≤ n) (h2 : n ≤ 129) :
    Calls Try.prog 34 #[.int .i64 (n : Nat), .int .i64 (m : Nat)] w fun e w' => ∃ g cap, e = .returned (cv g cap n m) ∧ CR w' base g cap (List.replicate n (Value.slice none 0 0)) (List.replicate n []) ∧ Below w.heap.size w w' := by
  have hmk := make_rows n (by omega)
  go_enter Try.func34, Try.ntmps34
  go_wp2
  have hbox : ((w.alloc (.cells #[Value.slice (some ⟨w.heap.size + 1, 0, none⟩) n n, .int .i64 (m : Nat)] 57)).alloc (.cells (List.replicate n (Value.slice none 0 0)).toArray 35)).heap[w.heap.size]? = some (.cells #[Value.slice (some ⟨w.heap.size + 1, 0, none⟩) n n, .int .i64 (m : Nat)] 57 (0, 0)) := by
    rw [Go.heap_alloc_old _ _ (by simp), Go.heap_alloc_new]
  (try simp only [Exit.inBlock, Exit.then])
  refine bodyPost_ret (results_cell_row rfl _ _ _ _ _ _ _ rfl hbox Try.underlying57 rfl rfl) rfl ?_
  refine ⟨w.heap.size + 1, n, rfl, ⟨?_, ?_⟩, ((Below.refl _ _).alloc (Nat.le_refl _) _).alloc (by simp) _⟩
  · have := World.ownsRow_lit (base := base) (e := 35) (size := 1) (w.alloc (.cells #[Value.slice (some ⟨w.heap.size + 1, 0, none⟩) n n, .int .i64 (m : Nat)] 57)) (List.replicate n (Value.slice none 0 0)).toArray n (by simp; omega) (by simp only [maxLen]; omega) (by simp)
    rw [List.length_replicate]
    simpa using this
  · intro l q hq
    rw [List.getElem?_replicate] at hq
    split at hq
    · injection hq with hq
      subst hq
      exact ⟨_, by rw [List.getElem?_replicate, if_pos (by assumption)], World.ownsRow_nil _ _ _ _⟩
    · cases hq
/-- What a box that holds the value keeps while the world grows. -/
structure CK (w0 : World) (b base g cap m : Nat) (S : List Value) (Q : List (List Nat)) (w : World) : Prop where
  box : w.heap[b]? = some (.cells #[.slice (some ⟨g, 0, none⟩) Q.length cap, .int .i64 (m : Nat)] 57 (0, 0))
  row : CR w base g cap S Q
  below : Below w0.heap.size w0 w
theorem CK.next {w0 : World} {b base g cap m : Nat} {S : List Value} {Q : List (List Nat)} {w w' : World} (h : CK w0 b base g cap m S Q w) (hB : Below w.heap.size w w') : CK w0 b base g cap m S Q w' :=
  ⟨(hB.block b (Array.getElem?_eq_some_iff.1 h.box).1).trans h.box, h.row.below hB, h.below.trans (hB.mono h.below.size)⟩
theorem CK.drew {w0 : World} {b base g cap m : Nat} {S : List Value} {Q : List (List Nat)} {w : World} (h : CK w0 b base g cap m S Q w) : CK w0 b base g cap m S Q w.drew :=
  ⟨h.box, ⟨h.row.outer, h.row.inner⟩, h.below.drew⟩
theorem CK.new {w : World} {base g cap m : Nat} {S : List Value} {Q : List (List Nat)} (h : CR w base g cap S Q) : CK w w.heap.size base g cap m S Q (w.alloc (.cells #[.slice (some ⟨g, 0, none⟩) Q.length cap, .int .i64 (m : Nat)] 57)) :=
  ⟨Go.heap_alloc_new w _, h.below ((Below.refl _ _).alloc (Nat.le_refl _) _), (Below.refl _ _).alloc (Nat.le_refl _) _⟩
theorem CK.c0 {w0 : World} {b base g cap m : Nat} {S : List Value} {Q : List (List Nat)} {w : World} (h : CK w0 b base g cap m S Q w) : w.cell? ⟨b, 0, none⟩ = some (.slice (some ⟨g, 0, none⟩) Q.length cap) := by rw [cell_of_row _ _ _ _ _ _ h.box]; rfl
theorem CK.c1 {w0 : World} {b base g cap m : Nat} {S : List Value} {Q : List (List Nat)} {w : World} (h : CK w0 b base g cap m S Q w) : w.cell? ⟨b, 1, none⟩ = some (.int .i64 (m : Nat)) := by rw [cell_of_row _ _ _ _ _ _ h.box]; rfl
/-- The l-th line's slice, and its k-th cell. -/
theorem CR.line {w : World} {base g cap : Nat} {S : List Value} {Q : List (List Nat)} (h : CR w base g cap S Q) {l : Nat} {q : List Nat} (hq : Q[l]? = some q) :
    ∃ A c, w.cell? ⟨g, l, none⟩ = some (.slice A q.length c) ∧ S[l]? = some (.slice A q.length c) ∧ w.ownsRow base 3 1 (.slice A q.length c) q.length (natV q) ∧ ∀ (k p : Nat), q[k]? = some p → ∃ gg, A = some ⟨gg, 0, none⟩ ∧ w.cell? ⟨gg, k, none⟩ = some (.int .i64 (p : Int)) := by
  obtain ⟨v, h1, h2⟩ := h.inner l q hq
  obtain ⟨A, c, rfl⟩ := own_slice h2
  refine ⟨A, c, h.cell h1, h1, h2, fun k p hp => ?_⟩
  have hk := lt_of_some hp
  obtain ⟨gg, cp, hv, _, _⟩ := h2.form (by omega)
  injection hv with hv1 hv2 hv3
  subst hv1 hv3
  refine ⟨gg, rfl, ?_⟩
  rw [h2.cellAt k (by omega), natV_at, hp]
  rfl
end Go.Proofs.Ytgcfiiidhihkaaa.C
