/- Rows of structs of one width, plain; many cells stored at once. No conditions. -/
import Derived.Test.YtgcfiiidhihkaaaBase
import Derived.Deep.MidRow
import Derived.WalkKit
import Derived.Laws.Tables
import Derived.Laws.ResultCell
import Derived.StillTailTactics
import Derived.Deep.QuietTactic
import Derived.BigQuiet
import Derived.Deep.RegionHeld
namespace Go.Proofs.Ytgcfiiidhihkaaa.C
open Go.RowKit
set_option linter.unusedVariables false
/-- Cells with others laid over them from o on. -/
def splice (L : List Value) (o : Nat) (cs : List Value) : List Value := L.take o ++ cs ++ L.drop (o + cs.length)
theorem splice_length {L cs : List Value} {o : Nat} (h : o + cs.length ≤ L.length) : (splice L o cs).length = L.length := by
  simp [splice]; omega
theorem splice_at {L cs : List Value} {o : Nat} (h : o + cs.length ≤ L.length) (j : Nat) : (splice L o cs)[j]? = if j < o then L[j]? else if j < o + cs.length then cs[j - o]? else L[j]? := by
  unfold splice
  by_cases h1 : j < o
  · rw [if_pos h1, List.append_assoc, List.getElem?_append_left (by simp; omega), List.getElem?_take, if_pos h1]
  · rw [if_neg h1]
    by_cases h2 : j < o + cs.length
    · rw [if_pos h2, List.getElem?_append_left (by simp; omega), List.getElem?_append_right (by simp; omega)]
      congr 1
      simp; omega
    · rw [if_neg h2, List.getElem?_append_right (by simp; omega), List.getElem?_drop]
      congr 1
      simp; omega
theorem flat_length (m : Nat) : ∀ (l : List (List Value)), (∀ c ∈ l, c.length = m) → l.flatten.length = l.length * m
  | [], _ => by simp
  | c :: r, h => by
    rw [List.flatten_cons, List.length_append, flat_length m r (fun x hx => h x (by simp [hx])), h c (by simp), List.length_cons, Nat.succ_mul]
    omega
theorem flat_at {m : Nat} : ∀ (l : List (List Value)), (∀ c ∈ l, c.length = m) → ∀ (i j : Nat) (c : List Value), l[i]? = some c → j < m → l.flatten[i * m + j]? = c[j]?
  | [], _, i, j, c, hc, _ => by simp at hc
  | c :: r, h, 0, j, d, hc, hj => by
    simp at hc
    subst hc
    rw [List.flatten_cons, Nat.zero_mul, Nat.zero_add, List.getElem?_append_left (by rw [h c (by simp)]; exact hj)]
  | c :: r, h, i + 1, j, d, hc, hj => by
    have e : (i + 1) * m + j = c.length + (i * m + j) := by rw [h c (by simp), Nat.succ_mul]; omega
    rw [List.flatten_cons, e, List.getElem?_append_right (by omega), Nat.add_sub_cancel_left]
    exact flat_at r (fun x hx => h x (by simp [hx])) i j d (by simpa using hc) hj
theorem flat_set {m : Nat} : ∀ (l : List (List Value)), (∀ c ∈ l, c.length = m) → ∀ (i : Nat) (c : List Value), i < l.length → c.length = m → (l.set i c).flatten = splice l.flatten (i * m) c
  | [], _, i, c, hi, _ => by simp at hi
  | d :: r, h, 0, c, hi, hc => by
    have hd := h d (by simp)
    simp only [List.set_cons_zero, List.flatten_cons, splice, Nat.zero_mul, List.take_zero, List.nil_append, Nat.zero_add]
    rw [show c.length = d.length by omega, List.drop_left]
  | d :: r, h, i + 1, c, hi, hc => by
    have hd := h d (by simp)
    have ih := flat_set r (fun x hx => h x (by simp [hx])) i c (by simpa using hi) hc
    simp only [List.set_cons_succ, List.flatten_cons]
    rw [ih]
    have e : (i + 1) * m = d.length + i * m := by rw [hd, Nat.succ_mul]; omega
    unfold splice
    rw [e, List.take_append, Nat.add_sub_cancel_left, List.take_of_length_le (show d.length ≤ d.length + i * m by omega), Nat.add_assoc, List.drop_append, Nat.add_sub_cancel_left, List.drop_eq_nil_of_le (show d.length ≤ d.length + (i * m + c.length) by omega)]
    simp
theorem block_setCells (t : TypeId) : ∀ (cs : List Value) (o : Nat) (w : World) (b : Nat) (C : Array Value), w.heap[b]? = some (.cells C t (0, 0)) → o + cs.length ≤ C.size →
    (w.setCells b o cs).heap[b]? = some (.cells (splice C.toList o cs).toArray t (0, 0))
  | [], o, w, b, C, h, hl => by
    simp only [World.setCells, splice, List.length_nil, Nat.add_zero, List.append_nil, List.take_append_drop]
    exact h
  | v :: r, o, w, b, C, h, hl => by
    simp only [List.length_cons] at hl
    have h1 := heap_setCell_same _ b o _ _ v h
    rw [World.setCells, block_setCells t r (o + 1) _ b _ h1 (by simp; omega)]
    congr 3
    apply List.ext_getElem?
    intro j
    rw [splice_at (by simp; omega), splice_at (by simp; omega)]
    simp only [Array.toList_setIfInBounds, List.length_cons]
    by_cases e0 : j < o
    · rw [if_pos e0, if_pos (by omega), List.getElem?_set_ne (by omega)]
    · rw [if_neg e0]
      by_cases e1 : j = o
      · subst e1
        rw [if_pos (by omega), if_pos (by omega), List.getElem?_set_self (by simp; omega), Nat.sub_self]
        rfl
      · rw [if_neg (by omega)]
        by_cases e2 : j < o + (r.length + 1)
        · rw [if_pos e2, if_pos (by omega), show j - o = (j - (o + 1)) + 1 by omega, List.getElem?_cons_succ]
        · rw [if_neg e2, if_neg (by omega), List.getElem?_set_ne (by omega)]
theorem heap_setCells_other : ∀ (cs : List Value) (o : Nat) (w : World) (b k : Nat), k ≠ b → (w.setCells b o cs).heap[k]? = w.heap[k]?
  | [], _, _, _, _, _ => rfl
  | v :: r, o, w, b, k, h => by rw [World.setCells, heap_setCells_other r (o + 1) _ b k h, heap_setCell_other _ _ _ _ (by simpa using h)]
theorem Two.setCells {g h b : Nat} (hb : b = g ∨ b = h) : ∀ (cs : List Value) (o : Nat) {w0 w : World}, Two g h w0 w → Two g h w0 (w.setCells b o cs)
  | [], _, _, _, p => p
  | v :: r, o, _, _, p => Two.setCells hb r (o + 1) (p.setCell (x := ⟨b, o, none⟩) hb v)
theorem Two.newCells {g h b : Nat} {w0 w : World} (p : Two g h w0 w) (hb : w0.heap.size ≤ b) (cs : List Value) (o : Nat) : Two g h w0 (w.setCells b o cs) := by
  have q : Two b b w (w.setCells b o cs) := Two.setCells (.inl rfl) cs o (Two.refl b b w)
  exact ⟨q.os.trans p.os, q.tape.trans p.tape, q.output.trans p.output, Nat.le_trans p.size q.size, fun k hk h1 h2 => (q.block k (Nat.lt_of_lt_of_le hk p.size) (by omega) (by omega)).trans (p.block k hk h1 h2)⟩
theorem below_setCells {B b : Nat} (hb : B ≤ b) : ∀ (cs : List Value) (o : Nat) {w0 w : World}, Below B w0 w → Below B w0 (w.setCells b o cs)
  | [], _, _, _, p => p
  | v :: r, o, _, _, p => below_setCells hb r (o + 1) (p.setCell (by simpa using hb) v)
theorem range_of_block {w : World} {b : Nat} {C : Array Value} {t : TypeId} {fr : Nat × Nat} (h : w.heap[b]? = some (.cells C t fr)) {o : Nat} {cs : List Value} (hc : ∀ j v, cs[j]? = some v → C[o + j]? = some v) : w.rangeAt b o cs := fun j v hv => by
  rw [cell_of_row _ _ _ _ _ _ h]
  exact hc j v hv
theorem there_of_block {w : World} {b : Nat} {C : Array Value} {t : TypeId} (h : w.heap[b]? = some (.cells C t (0, 0))) {o n : Nat} (hn : o + n ≤ C.size) : w.there b o n := fun j hj => by
  refine ⟨?_, frozen_of_row _ _ _ _ _ h⟩
  rw [cell_of_row _ _ _ _ _ _ h, Array.getElem?_eq_getElem (by omega)]
  rfl
theorem size_setCells : ∀ (cs : List Value) (o : Nat) (w : World) (b : Nat), (w.setCells b o cs).heap.size = w.heap.size
  | [], _, _, _ => rfl
  | v :: r, o, w, b => by rw [World.setCells, size_setCells r (o + 1)]; simp [World.setCell]
/-- A whole box is stored. -/
theorem box_whole {w : World} {b : Nat} {C : Array Value} {t : TypeId} (h : w.heap[b]? = some (.cells C t (0, 0))) {cs : Array Value} (hs : cs.size = C.size) : (w.setCells b 0 cs.toList).heap[b]? = some (.cells cs t (0, 0)) := by
  rw [block_setCells t cs.toList 0 w b C h (by simp; omega)]
  congr 2
  unfold splice
  rw [List.take_zero, List.nil_append, List.drop_eq_nil_of_le (by simp; omega), List.append_nil, Array.toArray_toList]
theorem res_row_tmp {P : Program} {fn : Func} {p u : Tmp} {ty : TypeId} (h : fn.results = #[.cell p ty, .tmp u]) (tmps : Array Value) (w : World) (g : Nat) (t : TypeId) (cs : Array Value) (fr : Nat × Nat) (d : TypeDesc)
    (hp : tmps.getD p undef = .pointer (some ⟨g, 0, none⟩)) (hg : w.heap[g]? = some (.cells cs t fr))
    (hu : P.underlying ty = some d) (hd : (match d with | .struct _ | .array _ _ => true | _ => false) = true) (hi : (P.info? ty).map (·.size) = some cs.size) :
    (results fn tmps).run P w = .ok (.tuple #[.agg cs, tmps.getD u undef]) w := by
  rw [results_cell_tmp h, hp]
  simp [asAddr, run_loadVar_row w g t ty cs fr d hg hu hd hi]
theorem keep_block {w w' : World} {b : Nat} {o : Obj} (h : Below w.heap.size w w') (hb : w.heap[b]? = some o) : w'.heap[b]? = some o :=
  (h.block b (Array.getElem?_eq_some_iff.1 hb).1).trans hb
theorem two_of_below {x y : Nat} {a b : World} (p : Below a.heap.size a b) : Two x y a b := ⟨p.os, p.tape, p.output, p.size, fun k hk _ _ => p.block k hk⟩
/-! A struct is built out of values, some of them structs of whatever cells. -/
theorem fold_splice (off : Nat) : ∀ (l : List Value) (k : Nat) (A : Array Value), off + k + l.length ≤ A.size →
    (l.zipIdx k).foldl (fun (cs : Array Value) (x : Value × Nat) => cs.setIfInBounds (off + x.2) x.1) A = (splice A.toList (off + k) l).toArray
  | [], k, A, h => by simp [splice]
  | v :: l, k, A, h => by
    simp only [List.length_cons] at h
    rw [List.zipIdx_cons, List.foldl_cons, fold_splice off l (k + 1) _ (by simp; omega)]
    congr 1
    apply List.ext_getElem?
    intro j
    rw [splice_at (by simp; omega), splice_at (by simp; omega)]
    simp only [Array.toList_setIfInBounds, List.length_cons]
    by_cases e0 : j < off + k
    · rw [if_pos e0, if_pos (by omega), List.getElem?_set_ne (by omega)]
    · rw [if_neg e0]
      by_cases e1 : j = off + k
      · subst e1
        rw [if_pos (by omega), if_pos (by omega), List.getElem?_set_self (by simp; omega), Nat.sub_self]
        rfl
      · rw [if_neg (by omega)]
        by_cases e2 : j < off + k + (l.length + 1)
        · rw [if_pos e2, if_pos (by omega), show j - (off + k) = (j - (off + (k + 1))) + 1 by omega, List.getElem?_cons_succ]
        · rw [if_neg e2, if_neg (by omega), List.getElem?_set_ne (by omega)]
/-- The parts laid over the noughts. -/
def layP (places : List (Nat × Nat)) : List Value → List (Nat × Value) → List Value
  | Z, [] => Z
  | Z, (i, v) :: r => layP places (splice Z ((places[i]?).getD (0, 0)).1 v.cells.toList) r
def FitsP (places : List (Nat × Nat)) (n : Nat) : List (Nat × Value) → Prop
  | [] => True
  | (i, v) :: r => (∃ p, places[i]? = some p ∧ v.cells.size = p.2 ∧ p.1 + p.2 ≤ n) ∧ FitsP places n r
theorem fill_lay (places : List (Nat × Nat)) : ∀ (parts : List (Nat × Value)) (Z : List Value), FitsP places Z.length parts → Instr.fill (places.toArray[·]?) Z.toArray parts = some (layP places Z parts).toArray
  | [], Z, _ => by simp [Instr.fill, layP]
  | (i, v) :: r, Z, ⟨⟨p, hp, hs, hl⟩, hr⟩ => by
    obtain ⟨off, size⟩ := p
    have hl' : off + size ≤ Z.length := hl
    have hs' : v.cells.size = size := hs
    have hp' : places.toArray[i]? = some (off, size) := by simpa using hp
    have hfold := fold_splice off v.cells.toList 0 Z.toArray (by simp; omega)
    simp only [Nat.add_zero] at hfold
    have hsl : (splice Z off v.cells.toList).length = Z.length := splice_length (by simp; omega)
    unfold Instr.fill
    simp only [hp']
    rw [if_neg (by simp; omega)]
    have hz : v.cells.zipIdx.foldl (fun (cs : Array Value) (x : Value × Nat) => cs.setIfInBounds (off + x.2) x.1) Z.toArray = (splice Z off v.cells.toList).toArray := by
      rw [← Array.foldl_toList, Array.toList_zipIdx]
      exact hfold
    have := fill_lay places r (splice Z off v.cells.toList) (by rw [hsl]; exact hr)
    simp only [layP, hp, Option.getD_some]
    rw [← this]
    congr 1
theorem run_build_lay {P : Program} {t : TypeId} {fs : Array Field} {places : List (Nat × Nat)} {Z : Array Value} (hu : P.underlying t = some (.struct fs)) (hz : (P.info? t).map (·.zero) = some (some (.agg Z)))
    (hp : (fs.toList.mapM fun f => (P.info? f.type).map fun i => (f.offset, i.size)) = some places) (parts : Array (Nat × Value)) (hf : FitsP places Z.size parts.toList) (w : World) :
    (Instr.build t parts).run P w = .ok (.agg (layP places Z.toList parts.toList).toArray) w := by
  refine run_build w t parts _ ?_
  unfold Program.built
  cases hq : P.info? t with
  | none => simp [hq] at hz
  | some i =>
    have hz' : i.zero = some (.agg Z) := by simpa [hq] using hz
    have := fill_lay places parts.toList Z.toList (by rw [Array.length_toList]; exact hf)
    rw [Array.toArray_toList] at this
    simp only [hu, hz', hp, Value.cells]
    exact this
/-! Arms of a walk: an operation by its run. -/
section
variable {P : Program} {ops : Array Oper} {rest : List Oper} {a : Act} {w : World} {Q : Exit → Act → World → Prop} {ty : TypeId} {pos : String} {after : Array Edge}
theorem arm_load (d s : Nat) (t : TypeId) (p v : Value) (hl : (Instr.loadAt t p).run P w = .ok v w) (hx : a.tmps.getD s undef = p) (h : wpList P ops Q rest (a.put (some d) v) w) :
    wpList P ops Q (⟨some d, .load t (.tmp s), ty, pos, after, none⟩ :: rest) a w :=
  wpList_plain rfl fun _ hK => by
    have hx' : a.eval (.tmp s) = p := hx
    unfold Oper.wp execOp
    simp only [hx', Sem.run_bind, hl, Result.andThen_ok, Sem.run_pure]
    exact hK _ _ h
theorem arm_store (s y : Nat) (t : TypeId) (p v : Value) (w' : World) (hl : (Instr.storeAt t p v).run P w = .ok () w') (hx : a.tmps.getD s undef = p) (hy : a.tmps.getD y undef = v) (h : wpList P ops Q rest (a.put none undef) w') :
    wpList P ops Q (⟨none, .store t (.tmp s) (.tmp y), ty, pos, after, none⟩ :: rest) a w :=
  wpList_plain rfl fun _ hK => by
    have hx' : a.eval (.tmp s) = p := hx
    have hy' : a.eval (.tmp y) = v := hy
    unfold Oper.wp execOp
    simp only [hx', hy', Sem.run_bind, hl, Result.andThen_ok, Sem.run_pure]
    exact hK _ _ h
theorem arm_build (d : Nat) (t : TypeId) (parts : Array (Nat × Operand)) (vals : Array (Nat × Value)) (v : Value) (hb : (Instr.build t vals).run P w = .ok v w) (hx : (parts.map fun x => (x.1, a.eval x.2)) = vals) (h : wpList P ops Q rest (a.put (some d) v) w) :
    wpList P ops Q (⟨some d, .build t parts, ty, pos, after, none⟩ :: rest) a w :=
  wpList_plain rfl fun _ hK => by
    unfold Oper.wp execOp
    have hx' : (parts.map fun (i, x) => (i, a.eval x)) = vals := hx
    simp only [hx', Sem.run_bind, hb, Result.andThen_ok, Sem.run_pure]
    exact hK _ _ h
theorem run_alloc_of {t : TypeId} {Z : Array Value} {n : Nat} (hz : (P.info? t).map (fun i => (i.zero, i.size)) = some (some (.agg Z), n)) (w : World) :
    (Instr.alloc t true (.tuple #[])).run P w = .ok (.pointer (some ⟨w.heap.size, 0, none⟩)) (w.alloc (.cells Z t)) := by
  cases hq : P.info? t with
  | none => simp [hq] at hz
  | some i =>
    simp [hq] at hz
    simp [Instr.alloc, zeroValue, typeInfo, hq, hz.1, newVar, Value.cells, go_sem]
theorem arm_alloc (d : Nat) (t : TypeId) (Z : Array Value) (n : Nat) (hz : (P.info? t).map (fun i => (i.zero, i.size)) = some (some (.agg Z), n))
    (h : ∀ W, Hid (Below w.heap.size w W) → Hid (W.heap[w.heap.size]? = some (.cells Z t (0, 0))) → Hid (W.heap.size = w.heap.size + 1) → wpList P ops Q rest (a.put (some d) (.pointer (some ⟨w.heap.size, 0, none⟩))) W) :
    wpList P ops Q (⟨some d, .alloc t, ty, pos, after, none⟩ :: rest) a w :=
  wpList_plain rfl fun _ hK => by
    unfold Oper.wp execOp
    simp only [Sem.run_bind, run_alloc_of hz, Result.andThen_ok, Sem.run_pure]
    exact hK _ _ (h _ (Lib.hid ((Below.refl _ _).alloc (Nat.le_refl _) _)) (Lib.hid (Go.heap_alloc_new _ _)) (Lib.hid (by simp)))
theorem arm_box (d s : Nat) (t : TypeId) (x : Array Value) (hx : a.tmps.getD s undef = .agg x)
    (h : ∀ W, Hid (Below w.heap.size w W) → Hid (W.heap[w.heap.size]? = some (.cells x t (0, 0))) → Hid (W.heap.size = w.heap.size + 1) → wpList P ops Q rest (a.put (some d) (.pointer (some ⟨w.heap.size, 0, none⟩))) W) :
    wpList P ops Q (⟨some d, .box t (.tmp s), ty, pos, after, none⟩ :: rest) a w :=
  wpList_plain rfl fun _ hK => by
    unfold Oper.wp execOp
    simp only [hx, Instr.box, newVar, Value.cells, Sem.run_bind, Sem.run_pure, Result.andThen_ok, go_sem]
    exact hK _ _ (h _ (Lib.hid ((Below.refl _ _).alloc (Nat.le_refl _) _)) (Lib.hid (Go.heap_alloc_new _ _)) (Lib.hid (by simp)))
/-- .. a guarded load. -/
theorem arm_loadg (d s : Nat) (t : TypeId) (p v : Value) {g : Option (Nat × Bool)} (hl : (Instr.loadAt t p).run P w = .ok v w) (hx : a.tmps.getD s undef = p) (hw : Region.wanted ⟨some d, .load t (.tmp s), ty, pos, after, g⟩ (yielded ops a.tmps) = true) (h : wpList P ops Q rest (a.put (some d) v) w) :
    wpList P ops Q (⟨some d, .load t (.tmp s), ty, pos, after, g⟩ :: rest) a w :=
  wpList_step fun _ hK => by
    rw [if_pos hw]
    have hx' : a.eval (.tmp s) = p := hx
    unfold Oper.wp execOp
    simp only [hx', Sem.run_bind, hl, Result.andThen_ok, Sem.run_pure]
    exact hK _ _ h
theorem arm_buildg (d : Nat) (t : TypeId) (parts : Array (Nat × Operand)) (vals : Array (Nat × Value)) (v : Value) {g : Option (Nat × Bool)} (hb : (Instr.build t vals).run P w = .ok v w) (hx : (parts.map fun x => (x.1, a.eval x.2)) = vals) (hw : Region.wanted ⟨some d, .build t parts, ty, pos, after, g⟩ (yielded ops a.tmps) = true) (h : wpList P ops Q rest (a.put (some d) v) w) :
    wpList P ops Q (⟨some d, .build t parts, ty, pos, after, g⟩ :: rest) a w :=
  wpList_step fun _ hK => by
    rw [if_pos hw]
    unfold Oper.wp execOp
    have hx' : (parts.map fun (i, x) => (i, a.eval x)) = vals := hx
    simp only [hx', Sem.run_bind, hb, Result.andThen_ok, Sem.run_pure]
    exact hK _ _ h
/-! .. and in a region that draws its order, whose operations ahead of the last one only read. -/
theorem wpStill_by {Q : Act → Prop} {o : Oper} {v : Value} (hw : Region.wanted o (yielded ops a.tmps) = true) (h : (execOp a.eval o).run P w = .ok (.value v) w) (hk : wpStill P ops w Q rest (a.put o.dst v)) : wpStill P ops w Q (o :: rest) a :=
  wpStill_step fun K hK => by
    rw [if_pos hw]
    unfold Oper.still
    rw [h, Oper.stillUpon_value]
    exact hK _ hk
theorem exec_load {d : Option Nat} {s : Nat} {t : TypeId} {g : Option (Nat × Bool)} {p v : Value} (hx : a.tmps.getD s undef = p) (hl : (Instr.loadAt t p).run P w = .ok v w) : (execOp a.eval ⟨d, .load t (.tmp s), ty, pos, after, g⟩).run P w = .ok (.value v) w := by
  have hx' : a.eval (.tmp s) = p := hx
  unfold execOp
  simp only [hx', Sem.run_bind, hl, Result.andThen_ok, Sem.run_pure]
theorem exec_build {d : Option Nat} {t : TypeId} {parts : Array (Nat × Operand)} {g : Option (Nat × Bool)} {vals : Array (Nat × Value)} {v : Value} (hx : (parts.map fun x => (x.1, a.eval x.2)) = vals) (hb : (Instr.build t vals).run P w = .ok v w) :
    (execOp a.eval ⟨d, .build t parts, ty, pos, after, g⟩).run P w = .ok (.value v) w := by
  unfold execOp
  have hx' : (parts.map fun (i, x) => (i, a.eval x)) = vals := hx
  simp only [hx', Sem.run_bind, hb, Result.andThen_ok, Sem.run_pure]
theorem quietAt_by {C : World → Prop} {o : Oper} {v : Value} (h : (execOp a.eval o).run P w = .ok (.value v) w) : o.quietAt P a C w v := by
  unfold Oper.quietAt
  rw [h]
  exact ⟨rfl, rfl⟩
/-- The walk of a region's operations, that nothing unfolds. -/
structure WQ (P : Program) (ops : Array Oper) (C : World → Prop) (Q : Act → Prop) (l : List Oper) (a : Act) : Prop where
  out : wpQuiet P ops C Q l a
theorem wq_step {C : World → Prop} {Q : Act → Prop} {o : Oper} (h : ∀ K : Act → Prop, (∀ a, WQ P ops C Q rest a → K a) → if Region.wanted o (yielded ops a.tmps) then o.quiet P a C K else K (a.put o.dst undef)) : WQ P ops C Q (o :: rest) a :=
  ⟨wpQuiet_step fun K hK => h K fun a ha => hK a ha.out⟩
theorem wq_nil {C : World → Prop} {Q : Act → Prop} (h : Q a) : WQ P ops C Q [] a := ⟨wpQuiet_nil h⟩
/-- A region that draws its order, walked in the text's order, under a class of worlds. -/
theorem wp_region_cls {id : Nat} {l : List Oper} (C : World → Prop) (hm : P.follows .mixedOrders = true) (hB : Region.lexB .any l.toArray = true) (hC : C w.drew)
    (h : WQ P l.toArray C (fun a' => ∀ w', C w' → Q .normal a' w') l a) : (Code.region id l.toArray true).wp P Q a w :=
  wp_region_quiet (C := C) hm hB hC (by simpa using h.out)
end
end Go.Proofs.Ytgcfiiidhihkaaa.C
