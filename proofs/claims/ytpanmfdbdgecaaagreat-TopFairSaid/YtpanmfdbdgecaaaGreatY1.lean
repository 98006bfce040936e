/- Words that all texts of this seat share: what a slice of integers reads as; hiding a fact from the walk. No conditions. · Rows of structs of one width, plain; many cells stored at once. No conditions. · Slabs, plain: places, the list of the free ones. No program in sight. · The walks of slab.Slab[api.Packet] over a slab that lies in memory: has, Get, Free. · The walks of slab.Slab[api.Packet]: Take, Give, New. · The walk of slab.New[api.Packet]; a slab of packets told by what its places have: the contracts. · Stores, plain: places with packets, lines of places, lists of packets. No program in sight. -/
import Derived.Below
import Derived.Lib.Hide
import Derived.OpenShut
import Derived.WalkKit
import Derived.Deep.Draws
import Derived.Deep.MidRow
import Derived.Laws.Tables
import Derived.Laws.ResultCell
import Derived.StillTailTactics
import Derived.Deep.QuietTactic
import Derived.BigQuiet
import Derived.Deep.RegionHeld
import Derived.Test.YtpanmfdbdgecaaaGreatProg
import Derived.KernelRfl
import Derived.Outline
import Derived.Laws.MakeOwn
import Derived.Deep.DeepCutAuto
import Derived.RegionTactic
namespace Go.Proofs.YtpanmfdbdgecaaaGreat.C
open Go.RowKit

/-- A slice of integers that came in: nil, or a row of cap cells, the numbers zs. -/
def IsRow (k : IntKind) (w : World) (a : Option Addr) (len cap : Nat) (zs : List Int) : Prop :=
  (a = none ∧ len = 0 ∧ cap = 0 ∧ zs = []) ∨
  ∃ x, a = some x ∧ len ≤ cap ∧ cap ≤ maxLen ∧ zs.length = cap ∧ (∀ i, i < zs.length → w.cell? (x.add i) = some (.int k (zs.getD i 0))) ∧ ∀ n ∈ zs, (Lit.int k n).wf = true

/-- At most the blocks g and h have turned; new ones may have come. -/
structure Two (g h : Nat) (w w' : World) : Prop where
  os : w'.os = w.os
  tape : w'.tape = w.tape
  output : w'.output = w.output
  size : w.heap.size ≤ w'.heap.size
  block : ∀ k, k < w.heap.size → k ≠ g → k ≠ h → w'.heap[k]? = w.heap[k]?
theorem Two.refl (g h : Nat) (w : World) : Two g h w w := ⟨rfl, rfl, rfl, Nat.le_refl _, fun _ _ _ _ => rfl⟩
theorem Two.trans {g h : Nat} {a b c : World} (p : Two g h a b) (q : Two g h b c) : Two g h a c :=
  ⟨q.os.trans p.os, q.tape.trans p.tape, q.output.trans p.output, Nat.le_trans p.size q.size, fun k hk h1 h2 => (q.block k (Nat.lt_of_lt_of_le hk p.size) h1 h2).trans (p.block k hk h1 h2)⟩
theorem Two.drewN {g h : Nat} {a b : World} (p : Two g h a b) (n : Nat) : Two g h a (b.drewN n) := ⟨p.os, p.tape, p.output, p.size, p.block⟩
theorem Two.setCell {g h : Nat} {a b : World} (p : Two g h a b) {x : Addr} (hx : x.block = g ∨ x.block = h) (v : Value) : Two g h a (b.setCell x v) :=
  p.trans ⟨rfl, rfl, rfl, by simp [World.setCell], fun k _ h1 h2 => Below.heap_setCell _ _ _ _ (by rcases hx with hx | hx <;> omega)⟩
theorem Two.below {g h B : Nat} {a b : World} (p : Two g h a b) (hB : B ≤ a.heap.size) (hg : B ≤ g) (hh : B ≤ h) : Below B a b :=
  ⟨p.os, p.tape, p.output, p.size, fun k hk => p.block k (by omega) (by omega) (by omega)⟩

theorem below_drewN {B : Nat} {a w : World} (h : Below B a w) (n : Nat) : Below B a (w.drewN n) := ⟨h.os, h.tape, h.output, h.size, h.block⟩
end Go.Proofs.YtpanmfdbdgecaaaGreat.C

namespace Go.Proofs.YtpanmfdbdgecaaaGreat.C
open Go.RowKit
set_option linter.unusedVariables false
/-- Cells with others laid over them from o on. -/
def splice (L : List Value) (o : Nat) (cs : List Value) : List Value := L.take o ++ cs ++ L.drop (o + cs.length)
theorem splice_length {L cs : List Value} {o : Nat} (h : o + cs.length ≤ L.length) : (splice L o cs).length = L.length := by
  simp [splice]; omega
theorem splice_at {L cs : List Value} {o : Nat} (h : o + cs.length ≤ L.length) (j : Nat) : (splice L o cs)[j]? = if j < o then L[j]? else if j < o + cs.length then cs[j - o]? else L[j]? := by
  unfold splice
  by_cases h1 : j < o
  · rw [if_pos h1, List.append_assoc, List.getElem?_append_left (by simp; omega), List.getElem?_take, if_pos h1]
  · rw [if_neg h1]
    by_cases h2 : j < o + cs.length
    · rw [if_pos h2, List.getElem?_append_left (by simp; omega), List.getElem?_append_right (by simp; omega)]
      congr 1
      simp; omega
    · rw [if_neg h2, List.getElem?_append_right (by simp; omega), List.getElem?_drop]
      congr 1
      simp; omega
theorem flat_length (m : Nat) : ∀ (l : List (List Value)), (∀ c ∈ l, c.length = m) → l.flatten.length = l.length * m
  | [], _ => by simp
  | c :: r, h => by
    rw [List.flatten_cons, List.length_append, flat_length m r (fun x hx => h x (by simp [hx])), h c (by simp), List.length_cons, Nat.succ_mul]
    omega
theorem flat_at {m : Nat} : ∀ (l : List (List Value)), (∀ c ∈ l, c.length = m) → ∀ (i j : Nat) (c : List Value), l[i]? = some c → j < m → l.flatten[i * m + j]? = c[j]?
  | [], _, i, j, c, hc, _ => by simp at hc
  | c :: r, h, 0, j, d, hc, hj => by
    simp at hc
    subst hc
    rw [List.flatten_cons, Nat.zero_mul, Nat.zero_add, List.getElem?_append_left (by rw [h c (by simp)]; exact hj)]
  | c :: r, h, i + 1, j, d, hc, hj => by
    have e : (i + 1) * m + j = c.length + (i * m + j) := by rw [h c (by simp), Nat.succ_mul]; omega
    rw [List.flatten_cons, e, List.getElem?_append_right (by omega), Nat.add_sub_cancel_left]
    exact flat_at r (fun x hx => h x (by simp [hx])) i j d (by simpa using hc) hj
theorem flat_set {m : Nat} : ∀ (l : List (List Value)), (∀ c ∈ l, c.length = m) → ∀ (i : Nat) (c : List Value), i < l.length → c.length = m → (l.set i c).flatten = splice l.flatten (i * m) c
  | [], _, i, c, hi, _ => by simp at hi
  | d :: r, h, 0, c, hi, hc => by
    have hd := h d (by simp)
    simp only [List.set_cons_zero, List.flatten_cons, splice, Nat.zero_mul, List.take_zero, List.nil_append, Nat.zero_add]
    rw [show c.length = d.length by omega, List.drop_left]
  | d :: r, h, i + 1, c, hi, hc => by
    have hd := h d (by simp)
    have ih := flat_set r (fun x hx => h x (by simp [hx])) i c (by simpa using hi) hc
    simp only [List.set_cons_succ, List.flatten_cons]
    rw [ih]
    have e : (i + 1) * m = d.length + i * m := by rw [hd, Nat.succ_mul]; omega
    unfold splice
    rw [e, List.take_append, Nat.add_sub_cancel_left, List.take_of_length_le (show d.length ≤ d.length + i * m by omega), Nat.add_assoc, List.drop_append, Nat.add_sub_cancel_left, List.drop_eq_nil_of_le (show d.length ≤ d.length + (i * m + c.length) by omega)]
    simp
theorem block_setCells (t : TypeId) : ∀ (cs : List Value) (o : Nat) (w : World) (b : Nat) (C : Array Value), w.heap[b]? = some (.cells C t (0, 0)) → o + cs.length ≤ C.size →
    (w.setCells b o cs).heap[b]? = some (.cells (splice C.toList o cs).toArray t (0, 0))
  | [], o, w, b, C, h, hl => by
    simp only [World.setCells, splice, List.length_nil, Nat.add_zero, List.append_nil, List.take_append_drop]
    exact h
  | v :: r, o, w, b, C, h, hl => by
    simp only [List.length_cons] at hl
    have h1 := heap_setCell_same _ b o _ _ v h
    rw [World.setCells, block_setCells t r (o + 1) _ b _ h1 (by simp; omega)]
    congr 3
    apply List.ext_getElem?
    intro j
    rw [splice_at (by simp; omega), splice_at (by simp; omega)]
    simp only [Array.toList_setIfInBounds, List.length_cons]
    by_cases e0 : j < o
    · rw [if_pos e0, if_pos (by omega), List.getElem?_set_ne (by omega)]
    · rw [if_neg e0]
      by_cases e1 : j = o
      · subst e1
        rw [if_pos (by omega), if_pos (by omega), List.getElem?_set_self (by simp; omega), Nat.sub_self]
        rfl
      · rw [if_neg (by omega)]
        by_cases e2 : j < o + (r.length + 1)
        · rw [if_pos e2, if_pos (by omega), show j - o = (j - (o + 1)) + 1 by omega, List.getElem?_cons_succ]
        · rw [if_neg e2, if_neg (by omega), List.getElem?_set_ne (by omega)]
theorem heap_setCells_other : ∀ (cs : List Value) (o : Nat) (w : World) (b k : Nat), k ≠ b → (w.setCells b o cs).heap[k]? = w.heap[k]?
  | [], _, _, _, _, _ => rfl
  | v :: r, o, w, b, k, h => by rw [World.setCells, heap_setCells_other r (o + 1) _ b k h, heap_setCell_other _ _ _ _ (by simpa using h)]
theorem Two.setCells {g h b : Nat} (hb : b = g ∨ b = h) : ∀ (cs : List Value) (o : Nat) {w0 w : World}, Two g h w0 w → Two g h w0 (w.setCells b o cs)
  | [], _, _, _, p => p
  | v :: r, o, _, _, p => Two.setCells hb r (o + 1) (p.setCell (x := ⟨b, o, none⟩) hb v)
theorem Two.newCells {g h b : Nat} {w0 w : World} (p : Two g h w0 w) (hb : w0.heap.size ≤ b) (cs : List Value) (o : Nat) : Two g h w0 (w.setCells b o cs) := by
  have q : Two b b w (w.setCells b o cs) := Two.setCells (.inl rfl) cs o (Two.refl b b w)
  exact ⟨q.os.trans p.os, q.tape.trans p.tape, q.output.trans p.output, Nat.le_trans p.size q.size, fun k hk h1 h2 => (q.block k (Nat.lt_of_lt_of_le hk p.size) (by omega) (by omega)).trans (p.block k hk h1 h2)⟩
theorem below_setCells {B b : Nat} (hb : B ≤ b) : ∀ (cs : List Value) (o : Nat) {w0 w : World}, Below B w0 w → Below B w0 (w.setCells b o cs)
  | [], _, _, _, p => p
  | v :: r, o, _, _, p => below_setCells hb r (o + 1) (p.setCell (by simpa using hb) v)
theorem range_of_block {w : World} {b : Nat} {C : Array Value} {t : TypeId} {fr : Nat × Nat} (h : w.heap[b]? = some (.cells C t fr)) {o : Nat} {cs : List Value} (hc : ∀ j v, cs[j]? = some v → C[o + j]? = some v) : w.rangeAt b o cs := fun j v hv => by
  rw [cell_of_row _ _ _ _ _ _ h]
  exact hc j v hv
theorem there_of_block {w : World} {b : Nat} {C : Array Value} {t : TypeId} (h : w.heap[b]? = some (.cells C t (0, 0))) {o n : Nat} (hn : o + n ≤ C.size) : w.there b o n := fun j hj => by
  refine ⟨?_, frozen_of_row _ _ _ _ _ h⟩
  rw [cell_of_row _ _ _ _ _ _ h, Array.getElem?_eq_getElem (by omega)]
  rfl
/-- A whole box is stored. -/
theorem box_whole {w : World} {b : Nat} {C : Array Value} {t : TypeId} (h : w.heap[b]? = some (.cells C t (0, 0))) {cs : Array Value} (hs : cs.size = C.size) : (w.setCells b 0 cs.toList).heap[b]? = some (.cells cs t (0, 0)) := by
  rw [block_setCells t cs.toList 0 w b C h (by simp; omega)]
  congr 2
  unfold splice
  rw [List.take_zero, List.nil_append, List.drop_eq_nil_of_le (by simp; omega), List.append_nil, Array.toArray_toList]
theorem res_row_tmp {P : Program} {fn : Func} {p u : Tmp} {ty : TypeId} (h : fn.results = #[.cell p ty, .tmp u]) (tmps : Array Value) (w : World) (g : Nat) (t : TypeId) (cs : Array Value) (fr : Nat × Nat) (d : TypeDesc)
    (hp : tmps.getD p undef = .pointer (some ⟨g, 0, none⟩)) (hg : w.heap[g]? = some (.cells cs t fr))
    (hu : P.underlying ty = some d) (hd : (match d with | .struct _ | .array _ _ => true | _ => false) = true) (hi : (P.info? ty).map (·.size) = some cs.size) :
    (results fn tmps).run P w = .ok (.tuple #[.agg cs, tmps.getD u undef]) w := by
  rw [results_cell_tmp h, hp]
  simp [asAddr, run_loadVar_row w g t ty cs fr d hg hu hd hi]
theorem keep_block {w w' : World} {b : Nat} {o : Obj} (h : Below w.heap.size w w') (hb : w.heap[b]? = some o) : w'.heap[b]? = some o :=
  (h.block b (Array.getElem?_eq_some_iff.1 hb).1).trans hb
theorem two_of_below {x y : Nat} {a b : World} (p : Below a.heap.size a b) : Two x y a b := ⟨p.os, p.tape, p.output, p.size, fun k hk _ _ => p.block k hk⟩
/-! A struct is built out of values, some of them structs of whatever cells. -/
theorem fold_splice (off : Nat) : ∀ (l : List Value) (k : Nat) (A : Array Value), off + k + l.length ≤ A.size →
    (l.zipIdx k).foldl (fun (cs : Array Value) (x : Value × Nat) => cs.setIfInBounds (off + x.2) x.1) A = (splice A.toList (off + k) l).toArray
  | [], k, A, h => by simp [splice]
  | v :: l, k, A, h => by
    simp only [List.length_cons] at h
    rw [List.zipIdx_cons, List.foldl_cons, fold_splice off l (k + 1) _ (by simp; omega)]
    congr 1
    apply List.ext_getElem?
    intro j
    rw [splice_at (by simp; omega), splice_at (by simp; omega)]
    simp only [Array.toList_setIfInBounds, List.length_cons]
    by_cases e0 : j < off + k
    · rw [if_pos e0, if_pos (by omega), List.getElem?_set_ne (by omega)]
    · rw [if_neg e0]
      by_cases e1 : j = off + k
      · subst e1
        rw [if_pos (by omega), if_pos (by omega), List.getElem?_set_self (by simp; omega), Nat.sub_self]
        rfl
      · rw [if_neg (by omega)]
        by_cases e2 : j < off + k + (l.length + 1)
        · rw [if_pos e2, if_pos (by omega), show j - (off + k) = (j - (off + (k + 1))) + 1 by omega, List.getElem?_cons_succ]
        · rw [if_neg e2, if_neg (by omega), List.getElem?_set_ne (by omega)]
/-- The parts laid over the noughts. -/
def layP (places : List (Nat × Nat)) : List Value → List (Nat × Value) → List Value
  | Z, [] => Z
  | Z, (i, v) :: r => layP places (splice Z ((places[i]?).getD (0, 0)).1 v.cells.toList) r
def FitsP (places : List (Nat × Nat)) (n : Nat) : List (Nat × Value) → Prop
  | [] => True
  | (i, v) :: r => (∃ p, places[i]? = some p ∧ v.cells.size = p.2 ∧ p.1 + p.2 ≤ n) ∧ FitsP places n r
theorem fill_lay (places : List (Nat × Nat)) : ∀ (parts : List (Nat × Value)) (Z : List Value), FitsP places Z.length parts → Instr.fill (places.toArray[·]?) Z.toArray parts = some (layP places Z parts).toArray
  | [], Z, _ => by simp [Instr.fill, layP]
  | (i, v) :: r, Z, ⟨⟨p, hp, hs, hl⟩, hr⟩ => by
    obtain ⟨off, size⟩ := p
    have hl' : off + size ≤ Z.length := hl
    have hs' : v.cells.size = size := hs
    have hp' : places.toArray[i]? = some (off, size) := by simpa using hp
    have hfold := fold_splice off v.cells.toList 0 Z.toArray (by simp; omega)
    simp only [Nat.add_zero] at hfold
    have hsl : (splice Z off v.cells.toList).length = Z.length := splice_length (by simp; omega)
    unfold Instr.fill
    simp only [hp']
    rw [if_neg (by simp; omega)]
    have hz : v.cells.zipIdx.foldl (fun (cs : Array Value) (x : Value × Nat) => cs.setIfInBounds (off + x.2) x.1) Z.toArray = (splice Z off v.cells.toList).toArray := by
      rw [← Array.foldl_toList, Array.toList_zipIdx]
      exact hfold
    have := fill_lay places r (splice Z off v.cells.toList) (by rw [hsl]; exact hr)
    simp only [layP, hp, Option.getD_some]
    rw [← this]
    congr 1
theorem run_build_lay {P : Program} {t : TypeId} {fs : Array Field} {places : List (Nat × Nat)} {Z : Array Value} (hu : P.underlying t = some (.struct fs)) (hz : (P.info? t).map (·.zero) = some (some (.agg Z)))
    (hp : (fs.toList.mapM fun f => (P.info? f.type).map fun i => (f.offset, i.size)) = some places) (parts : Array (Nat × Value)) (hf : FitsP places Z.size parts.toList) (w : World) :
    (Instr.build t parts).run P w = .ok (.agg (layP places Z.toList parts.toList).toArray) w := by
  refine run_build w t parts _ ?_
  unfold Program.built
  cases hq : P.info? t with
  | none => simp [hq] at hz
  | some i =>
    have hz' : i.zero = some (.agg Z) := by simpa [hq] using hz
    have := fill_lay places parts.toList Z.toList (by rw [Array.length_toList]; exact hf)
    rw [Array.toArray_toList] at this
    simp only [hu, hz', hp, Value.cells]
    exact this
/-! Arms of a walk: an operation by its run. -/
section
variable {P : Program} {ops : Array Oper} {rest : List Oper} {a : Act} {w : World} {Q : Exit → Act → World → Prop} {ty : TypeId} {pos : String} {after : Array Edge}
theorem arm_load (d s : Nat) (t : TypeId) (p v : Value) (hl : (Instr.loadAt t p).run P w = .ok v w) (hx : a.tmps.getD s undef = p) (h : wpList P ops Q rest (a.put (some d) v) w) :
    wpList P ops Q (⟨some d, .load t (.tmp s), ty, pos, after, none⟩ :: rest) a w :=
  wpList_plain rfl fun _ hK => by
    have hx' : a.eval (.tmp s) = p := hx
    unfold Oper.wp execOp
    simp only [hx', Sem.run_bind, hl, Result.andThen_ok, Sem.run_pure]
    exact hK _ _ h
theorem arm_store (s y : Nat) (t : TypeId) (p v : Value) (w' : World) (hl : (Instr.storeAt t p v).run P w = .ok () w') (hx : a.tmps.getD s undef = p) (hy : a.tmps.getD y undef = v) (h : wpList P ops Q rest (a.put none undef) w') :
    wpList P ops Q (⟨none, .store t (.tmp s) (.tmp y), ty, pos, after, none⟩ :: rest) a w :=
  wpList_plain rfl fun _ hK => by
    have hx' : a.eval (.tmp s) = p := hx
    have hy' : a.eval (.tmp y) = v := hy
    unfold Oper.wp execOp
    simp only [hx', hy', Sem.run_bind, hl, Result.andThen_ok, Sem.run_pure]
    exact hK _ _ h
theorem arm_build (d : Nat) (t : TypeId) (parts : Array (Nat × Operand)) (vals : Array (Nat × Value)) (v : Value) (hb : (Instr.build t vals).run P w = .ok v w) (hx : (parts.map fun x => (x.1, a.eval x.2)) = vals) (h : wpList P ops Q rest (a.put (some d) v) w) :
    wpList P ops Q (⟨some d, .build t parts, ty, pos, after, none⟩ :: rest) a w :=
  wpList_plain rfl fun _ hK => by
    unfold Oper.wp execOp
    have hx' : (parts.map fun (i, x) => (i, a.eval x)) = vals := hx
    simp only [hx', Sem.run_bind, hb, Result.andThen_ok, Sem.run_pure]
    exact hK _ _ h
theorem run_alloc_of {t : TypeId} {Z : Array Value} {n : Nat} (hz : (P.info? t).map (fun i => (i.zero, i.size)) = some (some (.agg Z), n)) (w : World) :
    (Instr.alloc t true (.tuple #[])).run P w = .ok (.pointer (some ⟨w.heap.size, 0, none⟩)) (w.alloc (.cells Z t)) := by
  cases hq : P.info? t with
  | none => simp [hq] at hz
  | some i =>
    simp [hq] at hz
    simp [Instr.alloc, zeroValue, typeInfo, hq, hz.1, newVar, Value.cells, go_sem]
theorem arm_alloc (d : Nat) (t : TypeId) (Z : Array Value) (n : Nat) (hz : (P.info? t).map (fun i => (i.zero, i.size)) = some (some (.agg Z), n))
    (h : ∀ W, Hid (Below w.heap.size w W) → Hid (W.heap[w.heap.size]? = some (.cells Z t (0, 0))) → Hid (W.heap.size = w.heap.size + 1) → wpList P ops Q rest (a.put (some d) (.pointer (some ⟨w.heap.size, 0, none⟩))) W) :
    wpList P ops Q (⟨some d, .alloc t, ty, pos, after, none⟩ :: rest) a w :=
  wpList_plain rfl fun _ hK => by
    unfold Oper.wp execOp
    simp only [Sem.run_bind, run_alloc_of hz, Result.andThen_ok, Sem.run_pure]
    exact hK _ _ (h _ (Lib.hid ((Below.refl _ _).alloc (Nat.le_refl _) _)) (Lib.hid (Go.heap_alloc_new _ _)) (Lib.hid (by simp)))
theorem arm_box (d s : Nat) (t : TypeId) (x : Array Value) (hx : a.tmps.getD s undef = .agg x)
    (h : ∀ W, Hid (Below w.heap.size w W) → Hid (W.heap[w.heap.size]? = some (.cells x t (0, 0))) → Hid (W.heap.size = w.heap.size + 1) → wpList P ops Q rest (a.put (some d) (.pointer (some ⟨w.heap.size, 0, none⟩))) W) :
    wpList P ops Q (⟨some d, .box t (.tmp s), ty, pos, after, none⟩ :: rest) a w :=
  wpList_plain rfl fun _ hK => by
    unfold Oper.wp execOp
    simp only [hx, Instr.box, newVar, Value.cells, Sem.run_bind, Sem.run_pure, Result.andThen_ok, go_sem]
    exact hK _ _ (h _ (Lib.hid ((Below.refl _ _).alloc (Nat.le_refl _) _)) (Lib.hid (Go.heap_alloc_new _ _)) (Lib.hid (by simp)))
/-- .. a guarded load. -/
theorem arm_loadg (d s : Nat) (t : TypeId) (p v : Value) {g : Option (Nat × Bool)} (hl : (Instr.loadAt t p).run P w = .ok v w) (hx : a.tmps.getD s undef = p) (hw : Region.wanted ⟨some d, .load t (.tmp s), ty, pos, after, g⟩ (yielded ops a.tmps) = true) (h : wpList P ops Q rest (a.put (some d) v) w) :
    wpList P ops Q (⟨some d, .load t (.tmp s), ty, pos, after, g⟩ :: rest) a w :=
  wpList_step fun _ hK => by
    rw [if_pos hw]
    have hx' : a.eval (.tmp s) = p := hx
    unfold Oper.wp execOp
    simp only [hx', Sem.run_bind, hl, Result.andThen_ok, Sem.run_pure]
    exact hK _ _ h
theorem arm_buildg (d : Nat) (t : TypeId) (parts : Array (Nat × Operand)) (vals : Array (Nat × Value)) (v : Value) {g : Option (Nat × Bool)} (hb : (Instr.build t vals).run P w = .ok v w) (hx : (parts.map fun x => (x.1, a.eval x.2)) = vals) (hw : Region.wanted ⟨some d, .build t parts, ty, pos, after, g⟩ (yielded ops a.tmps) = true) (h : wpList P ops Q rest (a.put (some d) v) w) :
    wpList P ops Q (⟨some d, .build t parts, ty, pos, after, g⟩ :: rest) a w :=
  wpList_step fun _ hK => by
    rw [if_pos hw]
    unfold Oper.wp execOp
    have hx' : (parts.map fun (i, x) => (i, a.eval x)) = vals := hx
    simp only [hx', Sem.run_bind, hb, Result.andThen_ok, Sem.run_pure]
    exact hK _ _ h
/-! .. and in a region that draws its order, whose operations ahead of the last one only read. -/
theorem wpStill_by {Q : Act → Prop} {o : Oper} {v : Value} (hw : Region.wanted o (yielded ops a.tmps) = true) (h : (execOp a.eval o).run P w = .ok (.value v) w) (hk : wpStill P ops w Q rest (a.put o.dst v)) : wpStill P ops w Q (o :: rest) a :=
  wpStill_step fun K hK => by
    rw [if_pos hw]
    unfold Oper.still
    rw [h, Oper.stillUpon_value]
    exact hK _ hk
theorem exec_load {d : Option Nat} {s : Nat} {t : TypeId} {g : Option (Nat × Bool)} {p v : Value} (hx : a.tmps.getD s undef = p) (hl : (Instr.loadAt t p).run P w = .ok v w) : (execOp a.eval ⟨d, .load t (.tmp s), ty, pos, after, g⟩).run P w = .ok (.value v) w := by
  have hx' : a.eval (.tmp s) = p := hx
  unfold execOp
  simp only [hx', Sem.run_bind, hl, Result.andThen_ok, Sem.run_pure]
theorem exec_build {d : Option Nat} {t : TypeId} {parts : Array (Nat × Operand)} {g : Option (Nat × Bool)} {vals : Array (Nat × Value)} {v : Value} (hx : (parts.map fun x => (x.1, a.eval x.2)) = vals) (hb : (Instr.build t vals).run P w = .ok v w) :
    (execOp a.eval ⟨d, .build t parts, ty, pos, after, g⟩).run P w = .ok (.value v) w := by
  unfold execOp
  have hx' : (parts.map fun (i, x) => (i, a.eval x)) = vals := hx
  simp only [hx', Sem.run_bind, hb, Result.andThen_ok, Sem.run_pure]
end
end Go.Proofs.YtpanmfdbdgecaaaGreat.C

namespace Go.Proofs.YtpanmfdbdgecaaaGreat.C

/-- A place: what it has, whether it is taken, the next free one. -/
structure Place (X : Type) where
  x : X
  taken : Bool
  next : Int
variable {X : Type}
theorem lt_of_some {α : Type} {l : List α} {i : Nat} {p : α} (h : l[i]? = some p) : i < l.length := by
  rcases Nat.lt_or_ge i l.length with h' | h'
  · exact h'
  · rw [List.getElem?_eq_none h'] at h; cases h
/-- Does place i have something? -/
def hasP (l : List (Place X)) (i : Int) : Bool := decide (0 ≤ i) && (match l[i.toNat]? with | some p => p.taken | none => false)
theorem hasP_out {l : List (Place X)} {i : Int} (h : i < 0 ∨ (l.length : Int) ≤ i) : hasP l i = false := by
  unfold hasP
  rcases h with h | h
  · rw [decide_eq_false (by omega)]; rfl
  · rw [List.getElem?_eq_none (by omega)]; simp
theorem hasP_in {l : List (Place X)} {i : Nat} {p : Place X} (h : l[i]? = some p) : hasP l (i : Int) = p.taken := by
  unfold hasP
  simp [h]

/-- The free places, one behind the other. -/
def ChainFrom (l : List (Place X)) : Int → List Nat → Prop
  | f, [] => f < 0
  | f, i :: r => f = (i : Int) ∧ ∃ p, l[i]? = some p ∧ ChainFrom l p.next r
/-- A slab's places, its first free one, how many are free, and which. -/
structure SInv (l : List (Place X)) (first free : Int) (fl : List Nat) : Prop where
  chain : ChainFrom l first fl
  nodup : fl.Nodup
  is : ∀ (i : Nat) (p : Place X), l[i]? = some p → (i ∈ fl ↔ p.taken = false)
  free : free = fl.length
theorem ChainFrom.mem {l : List (Place X)} : ∀ {fl : List Nat} {f : Int}, ChainFrom l f fl → ∀ i ∈ fl, i < l.length
  | _ :: _, _, ⟨_, p, hp, hr⟩, i, hi => by
    rcases List.mem_cons.1 hi with rfl | hi
    · exact lt_of_some hp
    · exact hr.mem i hi
theorem ChainFrom.set {l : List (Place X)} {i : Nat} {q : Place X} : ∀ {fl : List Nat} {f : Int}, ChainFrom l f fl → i ∉ fl → ChainFrom (l.set i q) f fl
  | [], _, h, _ => h
  | j :: r, f, ⟨h1, p, hp, hr⟩, hi => by
    have hij : i ≠ j := fun e => hi (by simp [e])
    exact ⟨h1, p, by rw [List.getElem?_set_ne hij]; exact hp, hr.set fun h => hi (by simp [h])⟩
theorem get_set {α : Type} {l : List α} {i j : Nat} {q p : α} (h : (l.set i q)[j]? = some p) : (j = i ∧ p = q) ∨ (j ≠ i ∧ l[j]? = some p) := by
  by_cases e : i = j
  · subst e
    have hl := lt_of_some h
    rw [List.length_set] at hl
    rw [List.getElem?_set_self hl] at h
    exact .inl ⟨rfl, by injection h with h; exact h.symm⟩
  · rw [List.getElem?_set_ne e] at h
    exact .inr ⟨fun h' => e h'.symm, h⟩
theorem SInv.head {l : List (Place X)} {first free : Int} {i : Nat} {r : List Nat} (h : SInv l first free (i :: r)) : first = i ∧ ∃ p, l[i]? = some p ∧ p.taken = false := by
  obtain ⟨h1, p, hp, _⟩ := h.chain
  exact ⟨h1, p, hp, (h.is i p hp).1 (by simp)⟩
theorem SInv.take {l : List (Place X)} {first free : Int} {i : Nat} {r : List Nat} (h : SInv l first free (i :: r)) {p : Place X} (hp : l[i]? = some p) (x : X) : SInv (l.set i ⟨x, true, 0⟩) p.next (free - 1) r := by
  obtain ⟨h1, q, hq, hc⟩ := h.chain
  rw [hp] at hq
  injection hq with hq
  subst hq
  have hn := List.nodup_cons.1 h.nodup
  refine ⟨hc.set hn.1, hn.2, fun j q hj => ?_, by have := h.free; simp at this; omega⟩
  rcases get_set hj with ⟨rfl, rfl⟩ | ⟨hne, hj⟩
  · simp [hn.1]
  · rw [← h.is j q hj]
    simp [hne]
theorem SInv.give {l : List (Place X)} {first free : Int} {fl : List Nat} (h : SInv l first free fl) {i : Nat} {p : Place X} (hp : l[i]? = some p) (ht : p.taken = true) (z : X) : SInv (l.set i ⟨z, false, first⟩) i (free + 1) (i :: fl) := by
  have hni : i ∉ fl := fun hm => by have := (h.is i p hp).1 hm; rw [ht] at this; cases this
  refine ⟨⟨rfl, _, List.getElem?_set_self (lt_of_some hp), h.chain.set hni⟩, List.nodup_cons.2 ⟨hni, h.nodup⟩, fun j q hj => ?_, by have := h.free; simp; omega⟩
  rcases get_set hj with ⟨rfl, rfl⟩ | ⟨hne, hj⟩
  · simp
  · rw [← h.is j q hj]
    simp [hne]
theorem nodup_length : ∀ (n : Nat) (fl : List Nat), fl.Nodup → (∀ i ∈ fl, i < n) → fl.length ≤ n
  | 0, fl, _, h => by
    cases fl with
    | nil => simp
    | cons a r => exact absurd (h a (by simp)) (by omega)
  | n + 1, fl, hn, h => by
    by_cases hm : n ∈ fl
    · have := nodup_length n (fl.erase n) (hn.erase n) fun i hi => by
        rw [hn.mem_erase_iff] at hi
        have := h i hi.2
        omega
      rw [List.length_erase_of_mem hm] at this
      omega
    · have := nodup_length n fl hn fun i hi => by
        have h1 := h i hi
        have : i ≠ n := fun e => hm (e ▸ hi)
        omega
      omega
theorem SInv.free_le {l : List (Place X)} {first free : Int} {fl : List Nat} (h : SInv l first free fl) : fl.length ≤ l.length := by
  exact nodup_length l.length fl h.nodup fun i hi => h.chain.mem i hi
/-- A new slab: all are free, in order. -/
theorem chain_new (z : X) (n : Nat) : ∀ (d k : Nat), n - k = d → k ≤ n → ChainFrom ((List.range n).map fun (i : Nat) => (⟨z, false, if i + 1 < n then (i : Int) + 1 else -1⟩ : Place X)) (if k < n then (k : Int) else -1) (List.range' k d)
  | 0, k, h, hk => by
    rw [if_neg (by omega)]
    show (-1 : Int) < 0
    omega
  | d + 1, k, h, hk => by
    rw [if_pos (by omega)]
    have := chain_new z n d (k + 1) (by omega) (by omega)
    refine ⟨rfl, ⟨z, false, if k + 1 < n then (k : Int) + 1 else -1⟩, by rw [List.getElem?_map, List.getElem?_range (by omega)]; rfl, ?_⟩
    show ChainFrom _ (if k + 1 < n then (k : Int) + 1 else -1) (List.range' (k + 1) d)
    rw [show (if k + 1 < n then (k : Int) + 1 else -1) = (if k + 1 < n then ((k + 1 : Nat) : Int) else -1) by simp]
    exact this
theorem SInv.new (z : X) (n : Nat) (hn : 0 < n) : SInv ((List.range n).map fun (i : Nat) => (⟨z, false, if i + 1 < n then (i : Int) + 1 else -1⟩ : Place X)) 0 n (List.range' 0 n) := by
  have := chain_new z n n 0 (by omega) (by omega)
  rw [if_pos hn] at this
  refine ⟨this, List.nodup_range', fun i p hp => ?_, by simp⟩
  have hi := lt_of_some hp
  simp at hi
  simp [hi] at hp
  subst hp
  simp [hi]

/-- What the places have. -/
def absP (l : List (Place X)) : List (Option X) := l.map fun p => if p.taken then some p.x else none
theorem absP_length (l : List (Place X)) : (absP l).length = l.length := by simp [absP]
theorem absP_set (l : List (Place X)) (i : Nat) (p : Place X) : absP (l.set i p) = (absP l).set i (if p.taken then some p.x else none) := by simp [absP, List.map_set]
theorem absP_at {l : List (Place X)} {i : Nat} {p : Place X} (h : l[i]? = some p) : (absP l)[i]? = some (if p.taken then some p.x else none) := by simp [absP, h]
/-- What place i has. -/
def getA (A : List (Option X)) (i : Int) : Option X := if 0 ≤ i then (A[i.toNat]?).join else none
theorem getA_nat (A : List (Option X)) (i : Nat) : getA A (i : Int) = (A[i]?).join := by simp [getA]
theorem getA_some {l : List (Place X)} {i : Int} {x : X} (h : getA (absP l) i = some x) : ∃ (k : Nat) (nx : Int), i = k ∧ l[k]? = some ⟨x, true, nx⟩ := by
  unfold getA at h
  by_cases h0 : 0 ≤ i
  · rw [if_pos h0] at h
    obtain ⟨k, rfl⟩ := Int.eq_ofNat_of_zero_le h0
    rw [Int.toNat_natCast] at h
    cases hp : l[k]? with
    | none => simp [absP, hp] at h
    | some p =>
      rw [absP_at hp] at h
      obtain ⟨y, t, nx⟩ := p
      cases t with
      | false => simp at h
      | true =>
        simp at h
        subst h
        exact ⟨k, nx, rfl, hp⟩
  · rw [if_neg h0] at h; cases h
theorem SInv.mem_iff {l : List (Place X)} {first free : Int} {fl : List Nat} (h : SInv l first free fl) (i : Nat) : i ∈ fl ↔ (absP l)[i]? = some none := by
  constructor
  · intro hm
    have hi := h.chain.mem i hm
    have hp : l[i]? = some l[i] := List.getElem?_eq_getElem hi
    rw [absP_at hp, (h.is i _ hp).1 hm]
    rfl
  · intro hA
    cases hp : l[i]? with
    | none => simp [absP, hp] at hA
    | some p =>
      rw [absP_at hp] at hA
      refine (h.is i p hp).2 ?_
      cases ht : p.taken with
      | false => rfl
      | true => rw [ht] at hA; simp at hA
end Go.Proofs.YtpanmfdbdgecaaaGreat.C

namespace Go.Proofs.YtpanmfdbdgecaaaGreat.C
open Go.RowKit
set_option linter.unusedVariables false
/-- A packet's cells. -/
structure Pk (x : Array Value) : Prop where
  size : x.size = 46
  one : x.all (·.oneCell') = true
/-- The packet of noughts. -/
def PZ : Array Value := ([Value.int .i64 0, Value.bool false, Value.int .u8 0] ++ List.replicate 32 (Value.int .u8 0) ++ [Value.int .u16 0, Value.int .u16 0, Value.bool false] ++ List.replicate 7 (Value.int .u8 0) ++ [Value.int .i64 0]).toArray
theorem pz_zero : (Tryz.prog.info? 68).map (fun i => (i.zero, i.size)) = some (some (.agg PZ), 46) := by kernel_rfl
theorem pz_built : Tryz.prog.built 68 [] = some PZ := by kernel_rfl
theorem pk_zero : Pk PZ := ⟨by kernel_rfl, by kernel_rfl⟩
theorem pkt_size : (Tryz.prog.info? 68).map (·.size) = some 46 := by kernel_rfl
theorem pl_size : (Tryz.prog.info? 299).map (·.size) = some 48 := by kernel_rfl
theorem pkt_desc : ∃ d, Tryz.prog.underlying 68 = some d ∧ d.isRow = true := ⟨_, Tryz.underlying68, rfl⟩
/-- A packet is stored into a box of its own. -/
theorem pkt_store {w : World} {b : Nat} {C x : Array Value} {t : TypeId} (h : w.heap[b]? = some (.cells C t (0, 0))) (hx : Pk x) (hC : C.size = 46 := by rfl) : (Instr.storeAt 68 (.pointer (some ⟨b, 0, none⟩)) (.agg x)).run Tryz.prog w = .ok () (w.setCells b 0 x.toList) :=
  run_storeAt_mid (P := Tryz.prog) w b 0 68 x (there_of_block h (by rw [hx.size, hC]; omega)) (by rw [pkt_size, hx.size]) hx.one
theorem pkt_load {w : World} {b : Nat} {x : Array Value} {t : TypeId} (h : w.heap[b]? = some (.cells x t (0, 0))) (hx : Pk x) : (Instr.loadAt 68 (.pointer (some ⟨b, 0, none⟩))).run Tryz.prog w = .ok (.agg x) w := by
  obtain ⟨d, hd1, hd2⟩ := pkt_desc
  have := run_loadAt_mid (P := Tryz.prog) w b 0 68 x.toList d (range_of_block h fun j v hv => by simpa using hv) hd1 hd2 (by rw [pkt_size, Array.length_toList, hx.size])
  simpa using this
namespace PS
/-- A place's cells. -/
def cellP (p : Place (Array Value)) : List Value := p.x.toList ++ [.bool p.taken, .int .i64 p.next]
def rowP (l : List (Place (Array Value))) : Array Value := ((l.map cellP).flatten).toArray
def AllPk (l : List (Place (Array Value))) : Prop := ∀ p ∈ l, Pk p.x
theorem cellP_len {p : Place (Array Value)} (h : Pk p.x) : (cellP p).length = 48 := by simp [cellP, h.size]
theorem AllPk.len {l : List (Place (Array Value))} (h : AllPk l) : ∀ c ∈ l.map cellP, c.length = 48 := by
  intro c hc
  obtain ⟨p, hp, rfl⟩ := List.mem_map.1 hc
  exact cellP_len (h p hp)
theorem AllPk.get {l : List (Place (Array Value))} (h : AllPk l) {i : Nat} {p : Place (Array Value)} (hp : l[i]? = some p) : Pk p.x := h p (List.mem_of_getElem? hp)
theorem AllPk.set {l : List (Place (Array Value))} (h : AllPk l) {i : Nat} {p : Place (Array Value)} (hp : Pk p.x) : AllPk (l.set i p) := fun q hq => by
  rcases List.mem_or_eq_of_mem_set hq with hq | rfl
  · exact h q hq
  · exact hp
theorem rowP_size {l : List (Place (Array Value))} (h : AllPk l) : (rowP l).size = l.length * 48 := by
  unfold rowP
  rw [List.size_toArray, flat_length 48 _ h.len, List.length_map]
theorem rowP_at {l : List (Place (Array Value))} (h : AllPk l) {i j : Nat} {p : Place (Array Value)} (hp : l[i]? = some p) (hj : j < 48) : (rowP l)[i * 48 + j]? = (cellP p)[j]? := by
  unfold rowP
  rw [List.getElem?_toArray]
  exact flat_at _ h.len i j _ (by simp [hp]) hj
theorem rowP_set {l : List (Place (Array Value))} (h : AllPk l) {i : Nat} {p : Place (Array Value)} (hi : i < l.length) (hp : Pk p.x) : rowP (l.set i p) = (splice (rowP l).toList (i * 48) (cellP p)).toArray := by
  unfold rowP
  rw [List.map_set, flat_set (m := 48) _ h.len i (cellP p) (by simpa using hi) (cellP_len hp)]
/-- A slab in memory: its struct in block pb, its places in block b. -/
structure SAt (w : World) (pb b : Nat) (first free : Int) (l : List (Place (Array Value))) : Prop where
  ptr : w.heap[pb]? = some (.cells #[.slice (some ⟨b, 0, none⟩) l.length l.length, .int .i64 first, .int .i64 free] 302 (0, 0))
  row : w.heap[b]? = some (.cells (rowP l) 299 (0, 0))
  ok : AllPk l
section
variable {w : World} {pb b : Nat} {first free : Int} {l : List (Place (Array Value))}
theorem SAt.ne (h : SAt w pb b first free l) : pb ≠ b := by
  rintro rfl
  have := h.ptr.symm.trans h.row
  injection this with this
  injection this with _ h2
  exact absurd h2 (by decide)
theorem SAt.c0 (h : SAt w pb b first free l) : w.cell? ⟨pb, 0, none⟩ = some (.slice (some ⟨b, 0, none⟩) l.length l.length) := by rw [cell_of_row _ _ _ _ _ _ h.ptr]; rfl
theorem SAt.c1 (h : SAt w pb b first free l) : w.cell? ⟨pb, 1, none⟩ = some (.int .i64 first) := by rw [cell_of_row _ _ _ _ _ _ h.ptr]; rfl
theorem SAt.c2 (h : SAt w pb b first free l) : w.cell? ⟨pb, 2, none⟩ = some (.int .i64 free) := by rw [cell_of_row _ _ _ _ _ _ h.ptr]; rfl
theorem SAt.tk (h : SAt w pb b first free l) {i : Nat} {p : Place (Array Value)} (hp : l[i]? = some p) : w.cell? ⟨b, i * 48 + 46, none⟩ = some (.bool p.taken) := by
  rw [cell_of_row _ _ _ _ _ _ h.row, rowP_at h.ok hp (by omega)]
  have := (h.ok.get hp).size
  simp [cellP, this]
theorem SAt.nx (h : SAt w pb b first free l) {i : Nat} {p : Place (Array Value)} (hp : l[i]? = some p) : w.cell? ⟨b, i * 48 + 47, none⟩ = some (.int .i64 p.next) := by
  rw [cell_of_row _ _ _ _ _ _ h.row, rowP_at h.ok hp (by omega)]
  have := (h.ok.get hp).size
  simp [cellP, this]
theorem SAt.pk (h : SAt w pb b first free l) {i : Nat} {p : Place (Array Value)} (hp : l[i]? = some p) : (Instr.loadAt 68 (.pointer (some ⟨b, i * 48, none⟩))).run Tryz.prog w = .ok (.agg p.x) w := by
  have hs := (h.ok.get hp).size
  have hr : w.rangeAt b (i * 48) p.x.toList := range_of_block h.row fun j v hv => by
    have hj := lt_of_some hv
    rw [Array.length_toList] at hj
    rw [rowP_at h.ok hp (by omega)]
    unfold cellP
    rw [List.getElem?_append_left (by simpa using hj)]
    exact hv
  obtain ⟨d, hd1, hd2⟩ := pkt_desc
  have := run_loadAt_mid (P := Tryz.prog) w b (i * 48) 68 p.x.toList d hr hd1 hd2 (by rw [pkt_size, Array.length_toList, hs])
  simpa using this
theorem SAt.f (h : SAt w pb b first free l) (j : Nat) : w.frozen? ⟨pb, j, none⟩ = false := frozen_of_row _ _ _ _ _ h.ptr
theorem SAt.drewN (h : SAt w pb b first free l) (n : Nat) : SAt (w.drewN n) pb b first free l := ⟨h.ptr, h.row, h.ok⟩
theorem SAt.two (h : SAt w pb b first free l) {w' : World} {g k : Nat} (p : Two g k w w') (h1 : pb ≠ g) (h2 : pb ≠ k) (h3 : b ≠ g) (h4 : b ≠ k) : SAt w' pb b first free l :=
  ⟨(p.block pb (Array.getElem?_eq_some_iff.1 h.ptr).1 h1 h2).trans h.ptr, (p.block b (Array.getElem?_eq_some_iff.1 h.row).1 h3 h4).trans h.row, h.ok⟩
theorem SAt.below (h : SAt w pb b first free l) {w' : World} (p : Below w.heap.size w w') : SAt w' pb b first free l :=
  ⟨(p.block pb (Array.getElem?_eq_some_iff.1 h.ptr).1).trans h.ptr, (p.block b (Array.getElem?_eq_some_iff.1 h.row).1).trans h.row, h.ok⟩
theorem SAt.setFirst (h : SAt w pb b first free l) (x : Int) : SAt (w.setCell ⟨pb, 1, none⟩ (.int .i64 x)) pb b x free l :=
  ⟨by rw [heap_setCell_same _ _ _ _ _ _ h.ptr]; rfl, by rw [heap_setCell_other _ _ _ _ (by simpa using h.ne.symm)]; exact h.row, h.ok⟩
theorem SAt.setFree (h : SAt w pb b first free l) (x : Int) : SAt (w.setCell ⟨pb, 2, none⟩ (.int .i64 x)) pb b first x l :=
  ⟨by rw [heap_setCell_same _ _ _ _ _ _ h.ptr]; rfl, by rw [heap_setCell_other _ _ _ _ (by simpa using h.ne.symm)]; exact h.row, h.ok⟩
/-- A place is stored whole. -/
theorem SAt.setPlace (h : SAt w pb b first free l) {i : Nat} (hi : i < l.length) {p : Place (Array Value)} (hp : Pk p.x) : SAt (w.setCells b (i * 48) (cellP p)) pb b first free (l.set i p) := by
  refine ⟨?_, ?_, h.ok.set hp⟩
  · rw [heap_setCells_other _ _ _ _ _ h.ne, List.length_set]
    exact h.ptr
  · rw [block_setCells _ _ _ _ _ _ h.row (by rw [rowP_size h.ok, cellP_len hp]; have := Nat.mul_le_mul_right 48 (show i + 1 ≤ l.length by omega); omega), rowP_set h.ok hi hp]
theorem SAt.storePlace (h : SAt w pb b first free l) {i : Nat} (hi : i < l.length) {p : Place (Array Value)} (hp : Pk p.x) :
    (Instr.storeAt 299 (.pointer (some ⟨b, i * 48, none⟩)) (.agg (cellP p).toArray)).run Tryz.prog w = .ok () (w.setCells b (i * 48) (cellP p)) := by
  have hm := Nat.mul_le_mul_right 48 (show i + 1 ≤ l.length by omega)
  have := run_storeAt_mid (P := Tryz.prog) w b (i * 48) 299 (cellP p).toArray (there_of_block h.row (by rw [rowP_size h.ok, List.size_toArray, cellP_len hp]; omega)) (by rw [pl_size, List.size_toArray, cellP_len hp])
    (all_oneCell_toArray fun v hv => by
      unfold cellP at hv
      rcases List.mem_append.1 hv with hv | hv
      · exact Array.all_eq_true_iff_forall_mem.1 hp.one v (by simpa using hv)
      · simp at hv
        rcases hv with rfl | rfl <;> rfl)
  simpa using this
end
theorem has_any (pb b : Nat) (first free i : Int) (l : List (Place (Array Value))) (w : World) (h : SAt w pb b first free l) (hl : l.length ≤ 65536) :
    Calls Tryz.prog 144 #[.pointer (some ⟨pb, 0, none⟩), .int .i64 i] w fun e w' => e = .returned (.bool (hasP l i)) ∧ w' = w := by
  have c0 := h.c0
  by_cases h0 : i < 0
  · rw [hasP_out (.inl h0)]
    clear h
    go_enter Tryz.func144, Tryz.ntmps144
    go_wp2
    go_ret
    exact ⟨rfl, rfl⟩
  · have h0' : 0 ≤ i := by omega
    by_cases h1 : (l.length : Int) ≤ i
    · rw [hasP_out (.inr h1)]
      have hd : decide (i < (l.length : Int)) = false := by simp; omega
      clear h
      go_enter Tryz.func144, Tryz.ntmps144
      go_wp2
      go_ret
      exact ⟨rfl, rfl⟩
    · obtain ⟨i, rfl⟩ := Int.eq_ofNat_of_zero_le h0'
      have hi : i < l.length := by omega
      obtain ⟨p, hp⟩ : ∃ p, l[i]? = some p := ⟨_, List.getElem?_eq_getElem hi⟩
      have q1 := h.tk hp
      rw [hasP_in hp]
      clear h hp
      cases ht : p.taken with
      | false =>
        rw [ht] at q1
        clear ht
        go_enter Tryz.func144, Tryz.ntmps144
        go_wp2
        go_ret
        exact ⟨rfl, rfl⟩
      | true =>
        rw [ht] at q1
        clear ht
        go_enter Tryz.func144, Tryz.ntmps144
        go_wp2
        go_ret
        exact ⟨rfl, rfl⟩
set_option maxRecDepth 100000 in
theorem get_yes (pb b i : Nat) (first free nx : Int) (l : List (Place (Array Value))) (x : Array Value) (w : World) (h : SAt w pb b first free l) (hl : l.length ≤ 65536) (hp : Hid (l[i]? = some ⟨x, true, nx⟩)) :
    Calls Tryz.prog 86 #[.pointer (some ⟨pb, 0, none⟩), .int .i64 i] w fun e w' => e = .returned (.tuple #[.agg x, .bool true]) ∧ Below w.heap.size w w' := by
  have C := Lib.hid (fun w' h' => has_any pb b first free i l w' h' hl)
  rw [hasP_in hp.out] at C
  have hi := lt_of_some hp.out
  have H := Lib.hid h
  clear h
  go_enter Tryz.func86, Tryz.ntmps86
  go_wp2_with ((with_reducible refine arm_alloc 4 68 PZ 46 pz_zero ?_); intro w1 HB HX HS)
  have h1 := H.out.below HB.out
  refine (C.out _ h1).mono ?_
  rintro e w2 ⟨rfl, rfl⟩
  have c0 := h1.c0
  have hld := h1.pk hp.out
  have hpk := h1.ok.get hp.out
  have hst := pkt_store HX.out hpk
  have HPK := Lib.hid hpk
  clear h1 hpk H C
  go_wp2_with (first
    | ((with_reducible refine arm_load 19 18 68 (.pointer (some ⟨b, i * 48, none⟩)) (.agg x) hld ?_ ?_); rfl)
    | ((with_reducible refine arm_store 4 19 68 (.pointer (some ⟨w.heap.size, 0, none⟩)) (.agg x) _ hst ?_ ?_ ?_); rfl; rfl))
  have hbx := box_whole HX.out (cs := x) HPK.out.size
  refine bodyPost_ret (res_row_tmp rfl _ _ _ _ _ _ _ rfl hbx Tryz.underlying68 rfl (by rw [pkt_size, HPK.out.size])) rfl ?_
  exact ⟨rfl, below_setCells (Nat.le_refl _) _ _ HB.out⟩
def plPlaces : List (Nat × Nat) := [(0, 46), (46, 1), (47, 1)]
theorem pl_info : ∃ fs, Tryz.prog.underlying 299 = some (.struct fs) ∧ (Tryz.prog.info? 299).map (·.zero) = some (some (.agg (cellP ⟨PZ, false, 0⟩).toArray)) ∧ (fs.toList.mapM fun f => (Tryz.prog.info? f.type).map fun i => (f.offset, i.size)) = some plPlaces :=
  ⟨_, Tryz.underlying299, by kernel_rfl, by kernel_rfl⟩
theorem build_take {x : Array Value} (hx : Pk x) (w : World) : (Instr.build 299 #[(0, .agg x), (1, .bool true)]).run Tryz.prog w = .ok (.agg (cellP ⟨x, true, 0⟩).toArray) w := by
  obtain ⟨fs, h1, h2, h3⟩ := pl_info
  have hs := hx.size
  rw [run_build_lay h1 h2 h3 #[(0, .agg x), (1, .bool true)] ⟨⟨(0, 46), rfl, hs, by decide⟩, ⟨(46, 1), rfl, rfl, by decide⟩, trivial⟩]
  refine congrArg (fun L => Result.ok (Value.agg (List.toArray L)) w) ?_
  have hp : PZ.size = 46 := by rfl
  have hx' : x.toList.length = 46 := by simpa using hs
  show splice (splice (PZ.toList ++ [Value.bool false, .int .i64 0]) 0 x.toList) 46 [Value.bool true] = x.toList ++ [Value.bool true, .int .i64 0]
  have hz : PZ.toList.length = 46 := by rfl
  generalize x.toList = X at *
  generalize PZ.toList = Z at *
  unfold splice
  simp [hx', hz, List.take_append, List.drop_append]
theorem build_give (f : Int) (w : World) : (Instr.build 299 #[(2, .int .i64 f)]).run Tryz.prog w = .ok (.agg (cellP ⟨PZ, false, f⟩).toArray) w := by
  obtain ⟨fs, h1, h2, h3⟩ := pl_info
  rw [run_build_lay h1 h2 h3 #[(2, .int .i64 f)] ⟨⟨(47, 1), rfl, rfl, by decide⟩, trivial⟩]
  congr 3
end PS
end Go.Proofs.YtpanmfdbdgecaaaGreat.C

namespace Go.Proofs.YtpanmfdbdgecaaaGreat.C.PS
open Go.RowKit
set_option linter.unusedVariables false
set_option maxRecDepth 100000 in
theorem take_yes (pb b i : Nat) (free nx : Int) (x y : Array Value) (tk : Bool) (l : List (Place (Array Value))) (w : World) (h : SAt w pb b i free l) (hl : l.length ≤ 65536) (hp : Hid (l[i]? = some ⟨y, tk, nx⟩)) (hf0 : 0 ≤ free) (hf1 : free ≤ 65536) (hx : Pk x) :
    Calls Tryz.prog 151 #[.pointer (some ⟨pb, 0, none⟩), .agg x] w fun e w' => e = .returned (.tuple #[.int .i64 i, .bool true]) ∧ SAt w' pb b nx (free - 1) (l.set i ⟨x, true, 0⟩) ∧ Two pb b w w' := by
  have H := Lib.hid h
  have hi := lt_of_some hp.out
  have HPK := Lib.hid hx
  clear h hx
  go_enter Tryz.func151, Tryz.ntmps151
  go_upto_region 1 with ((with_reducible refine arm_box 3 1 68 x ?_ ?_); rfl; intro w1 HB HX HS)
  have h1 := H.out.below HB.out
  have hT : Two pb b w w1 := two_of_below HB.out
  have hlt := (Array.getElem?_eq_some_iff.1 H.out.ptr).1
  have hbx : w1.heap[w.heap.size]? = some (.cells x 68 (0, 0)) := HX.out
  generalize w.heap.size = bx at hbx hlt ⊢
  have c0 := h1.c0
  have c1 := h1.c1
  have q2 := h1.nx hp.out
  have f1 := h1.f 1
  have h2 := h1.setFirst nx
  have hT2 := hT.setCell (x := ⟨pb, 1, none⟩) (.inl rfl) (.int .i64 nx)
  have hbx2 : (w1.setCell ⟨pb, 1, none⟩ (.int .i64 nx)).heap[bx]? = some (.cells x 68 (0, 0)) := (heap_setCell_other _ _ _ _ (by show bx ≠ pb; omega)).trans hbx
  have H2 := Lib.hid h2
  have HT2 := Lib.hid hT2
  have HBX := Lib.hid hbx2
  clear HB HX HS H h1 hT hlt hbx h2 hT2 hbx2
  go_wp2_with fail
  refine wp_region_still_tail 8 (by kernel_rfl) (by kernel_rfl) ?_
  generalize w1.setCell ⟨pb, 1, none⟩ (.int .i64 nx) = w2 at *
  change wpStill _ _ w2.drew (fun a' => wpList _ _ _ _ a' w2.drew) _ _
  simp only [List.take_succ_cons, List.take_zero, List.drop_succ_cons, List.drop_zero]
  have h3 : SAt w2.drew pb b nx free l := ⟨H2.out.ptr, H2.out.row, H2.out.ok⟩
  have hT3 : Two pb b w w2.drew := HT2.out.drewN 1
  have hbx3 : w2.drew.heap[bx]? = some (.cells x 68 (0, 0)) := HBX.out
  generalize w2.drew = w3 at h3 hT3 hbx3 ⊢
  have c0' := h3.c0
  have hld := pkt_load hbx3 HPK.out
  have hst := h3.storePlace hi (p := ⟨x, true, 0⟩) HPK.out
  have h4 := h3.setPlace hi (p := ⟨x, true, 0⟩) HPK.out
  have hT4 := Two.setCells (g := pb) (h := b) (b := b) (.inr rfl) (cellP ⟨x, true, 0⟩) (i * 48) hT3
  have hbl := build_take HPK.out w3
  have H4 := Lib.hid h4
  have HT4 := Lib.hid hT4
  clear h3 hT3 hbx3 h4 hT4 H2 HT2 HBX c0 c1 q2 f1
  iterate 5 still_step
  refine wpStill_by (by rfl) (exec_load rfl hld) ?_
  simp only [Act.put, List.setIfInBounds_toArray, List.set_cons_zero, List.set_cons_succ]
  refine wpStill_by (by rfl) (exec_build (vals := #[(0, .agg x), (1, .bool true)]) (by first | rfl | simp [Act.eval]) hbl) ?_
  simp only [Act.put, List.setIfInBounds_toArray, List.set_cons_zero, List.set_cons_succ]
  still_step
  refine wpStill_nil ?_
  refine arm_store 38 37 299 (.pointer (some ⟨b, i * 48, none⟩)) (.agg (cellP ⟨x, true, 0⟩).toArray) _ hst rfl rfl ?_
  clear hst hld hbl c0'
  generalize w3.setCells b (i * 48) (cellP ⟨x, true, 0⟩) = w4 at *
  have e2 := H4.out.c2
  have k2 := H4.out.f 2
  have H5 := Lib.hid (H4.out.setFree (free - 1))
  have HT5 := Lib.hid (HT4.out.setCell (x := ⟨pb, 2, none⟩) (.inl rfl) (.int .i64 (free - 1)))
  go_wp2
  go_ret2
  exact ⟨rfl, H5.out, HT5.out⟩
set_option maxRecDepth 100000 in
set_option maxHeartbeats 400000 in
theorem give_yes (pb b i : Nat) (first free nx : Int) (x : Array Value) (l : List (Place (Array Value))) (w : World) (h : SAt w pb b first free l) (hl : l.length ≤ 65536) (hp : Hid (l[i]? = some ⟨x, true, nx⟩)) (hf0 : 0 ≤ free) (hf1 : free ≤ 65536) :
    Calls Tryz.prog 170 #[.pointer (some ⟨pb, 0, none⟩), .int .i64 i] w fun e w' => e = .returned (.tuple #[.agg x, .bool true]) ∧ SAt w' pb b i (free + 1) (l.set i ⟨PZ, false, first⟩) ∧ Two pb b w w' := by
  have C := Lib.hid (fun w' h' => get_yes pb b i first free nx l x w' h' hl hp)
  have HPK := Lib.hid (h.ok.get hp.out)
  have hi := lt_of_some hp.out
  have H := Lib.hid h
  clear h
  go_enter Tryz.func170, Tryz.ntmps170
  go_wp2_with ((with_reducible refine arm_alloc 4 68 PZ 46 pz_zero ?_); intro w1 HB HX HS)
  refine (C.out _ (H.out.below HB.out)).mono ?_
  rintro e w2 ⟨rfl, hB2⟩
  have hX2 := keep_block hB2 HX.out
  have hlt := (Array.getElem?_eq_some_iff.1 hX2).1
  have HX2 := Lib.hid hX2
  have HB2 := Lib.hid (HB.out.trans (hB2.mono HB.out.size))
  clear C hB2 HB HX hX2 HS
  go_upto_region 2 with (first
    | ((with_reducible refine arm_alloc 6 68 PZ 46 pz_zero ?_); intro w3 HB3 HX3 HS3; have hst := pkt_store HX3.out HPK.out)
    | ((with_reducible refine arm_store 6 12 68 (.pointer (some ⟨w2.heap.size, 0, none⟩)) (.agg x) _ hst ?_ ?_ ?_); rfl; rfl))
  clear hst
  have HB5 := Lib.hid (below_setCells (b := w2.heap.size) (Nat.le_refl _) x.toList 0 HB3.out)
  have hbx5 := box_whole HX3.out (cs := x) HPK.out.size
  have hX5 := keep_block HB5.out HX2.out
  have hB6 := HB2.out.trans (HB5.out.mono HB2.out.size)
  have h5 := H.out.below hB6
  have hT5 : Two pb b w (w3.setCells w2.heap.size 0 x.toList) := two_of_below hB6
  have ho1 := (Array.getElem?_eq_some_iff.1 H.out.ptr).1
  have ho2 := (Array.getElem?_eq_some_iff.1 H.out.row).1
  have hlt2 := HB2.out.size
  generalize w3.setCells w2.heap.size 0 x.toList = w5 at *
  generalize w2.heap.size = b2 at *
  have ho3 : b2 ≠ pb ∧ b2 ≠ b ∧ w.heap.size ≠ pb ∧ w.heap.size ≠ b ∧ b2 ≠ w.heap.size := ⟨by omega, by omega, by omega, by omega, by omega⟩
  generalize hb1 : w.heap.size = b1 at *
  have HB1 := Lib.hid hb1
  clear hb1
  have H5 := Lib.hid h5
  have HT5 := Lib.hid hT5
  have HBX := Lib.hid hbx5
  have HX5 := Lib.hid hX5
  have HO := Lib.hid ho3
  clear hbx5 hX5 HB3 HX3 HS3 HB5 HB2 HX2 H hB6 h5 hT5 ho1 ho2 hlt2 hlt ho3
  go_wp2_with fail
  refine wp_region_still_tail 11 (by kernel_rfl) (by kernel_rfl) ?_
  change wpStill _ _ w5.drew (fun a' => wpList _ _ _ _ a' w5.drew) _ _
  simp only [List.take_succ_cons, List.take_zero, List.drop_succ_cons, List.drop_zero]
  have h6 : SAt w5.drew pb b first free l := ⟨H5.out.ptr, H5.out.row, H5.out.ok⟩
  have hT6 : Two pb b w w5.drew := HT5.out.drewN 1
  have hbx6 : w5.drew.heap[b2]? = some (.cells x 68 (0, 0)) := HBX.out
  have hX6 : w5.drew.heap[b1]? = some (.cells PZ 68 (0, 0)) := HX5.out
  generalize w5.drew = w6 at h6 hT6 hbx6 hX6 ⊢
  have c0 := h6.c0
  have c1 := h6.c1
  have hst := h6.storePlace hi (p := ⟨PZ, false, first⟩) pk_zero
  have h7 := h6.setPlace hi (p := ⟨PZ, false, first⟩) pk_zero
  have hT7 := Two.setCells (g := pb) (h := b) (b := b) (.inr rfl) (cellP ⟨PZ, false, first⟩) (i * 48) hT6
  have hbl := build_give first w6
  have HBX7 := Lib.hid ((heap_setCells_other (cellP ⟨PZ, false, first⟩) (i * 48) w6 b b2 HO.out.2.1).trans hbx6)
  have HX7 := Lib.hid ((heap_setCells_other (cellP ⟨PZ, false, first⟩) (i * 48) w6 b b1 HO.out.2.2.2.1).trans hX6)
  have H7 := Lib.hid h7
  have HT7 := Lib.hid hT7
  clear h6 hT6 hbx6 hX6 h7 hT7 H5 HT5 HBX HX5
  iterate 9 still_step
  refine wpStill_by (by rfl) (exec_build (vals := #[(2, .int .i64 first)]) (by first | rfl | simp [Act.eval]) hbl) ?_
  simp only [Act.put, List.setIfInBounds_toArray, List.set_cons_zero, List.set_cons_succ]
  still_step
  refine wpStill_nil ?_
  refine arm_store 25 24 299 (.pointer (some ⟨b, i * 48, none⟩)) (.agg (cellP ⟨PZ, false, first⟩).toArray) _ hst rfl rfl ?_
  clear hst hbl c0 c1
  generalize w6.setCells b (i * 48) (cellP ⟨PZ, false, first⟩) = w7 at *
  have e1 := H7.out.c1
  have k1 := H7.out.f 1
  have h8 := H7.out.setFirst i
  have e2 := h8.c2
  have k2 := h8.f 2
  have h9 := h8.setFree (free + 1)
  have hT9 := (HT7.out.setCell (x := ⟨pb, 1, none⟩) (.inl rfl) (.int .i64 i)).setCell (x := ⟨pb, 2, none⟩) (.inl rfl) (.int .i64 (free + 1))
  have hbx9 : ((w7.setCell ⟨pb, 1, none⟩ (.int .i64 i)).setCell ⟨pb, 2, none⟩ (.int .i64 (free + 1))).heap[b2]? = some (.cells x 68 (0, 0)) := by
    rw [heap_setCell_other _ _ _ _ (by simpa using HO.out.1), heap_setCell_other _ _ _ _ (by simpa using HO.out.1)]
    exact HBX7.out
  have hX9 : ((w7.setCell ⟨pb, 1, none⟩ (.int .i64 i)).setCell ⟨pb, 2, none⟩ (.int .i64 (free + 1))).heap[b1]? = some (.cells PZ 68 (0, 0)) := by
    rw [heap_setCell_other _ _ _ _ (by simpa using HO.out.2.2.1), heap_setCell_other _ _ _ _ (by simpa using HO.out.2.2.1)]
    exact HX7.out
  have HBX9 := Lib.hid hbx9
  have HX9 := Lib.hid hX9
  have H9 := Lib.hid h9
  have HT9 := Lib.hid hT9
  clear h8 h9 hT9 hbx9 hX9 H7 HT7 HBX7 HX7
  go_upto_region 6 with (fail)
  clear e1 k1 e2 k2
  generalize (w7.setCell ⟨pb, 1, none⟩ (.int .i64 i)).setCell ⟨pb, 2, none⟩ (.int .i64 (free + 1)) = w9 at *
  have hld := pkt_load HBX9.out HPK.out
  have hst := pkt_store HX9.out HPK.out
  go_wp2_with (first
    | ((with_reducible refine arm_load 37 6 68 (.pointer (some ⟨b2, 0, none⟩)) (.agg x) hld ?_ ?_); rfl)
    | ((with_reducible refine arm_store 4 37 68 (.pointer (some ⟨b1, 0, none⟩)) (.agg x) _ hst ?_ ?_ ?_); rfl; rfl))
  have hbx := box_whole HX9.out (cs := x) HPK.out.size
  refine bodyPost_ret (res_row_tmp rfl _ _ _ _ _ _ _ rfl hbx Tryz.underlying68 rfl (by rw [pkt_size, HPK.out.size])) rfl ?_
  have ht : Two b1 b1 w9 (w9.setCells b1 0 x.toList) := Two.setCells (.inl rfl) _ _ (Two.refl b1 b1 w9)
  have ho := HO.out
  exact ⟨rfl, H9.out.two ht (by omega) (by omega) (by omega) (by omega), HT9.out.newCells (by have := HB1.out; omega) _ _⟩
end Go.Proofs.YtpanmfdbdgecaaaGreat.C.PS

namespace Go.Proofs.YtpanmfdbdgecaaaGreat.C.PS
open Go.RowKit
set_option linter.unusedVariables false
theorem rowP_setNext {l : List (Place (Array Value))} (h : AllPk l) {i : Nat} {p : Place (Array Value)} (hp : l[i]? = some p) (nx : Int) : rowP (l.set i { p with next := nx }) = (rowP l).setIfInBounds (i * 48 + 47) (.int .i64 nx) := by
  have hi := lt_of_some hp
  have hx := h.get hp
  have hsz := rowP_size h
  have hm := Nat.mul_le_mul_right 48 (show i + 1 ≤ l.length by omega)
  rw [rowP_set h hi (p := { p with next := nx }) hx]
  have hc : (cellP { p with next := nx }).length = 48 := cellP_len (p := { p with next := nx }) hx
  apply Array.ext_getElem?
  intro j
  rw [List.getElem?_toArray, splice_at (by simp only [Array.length_toList, hc]; omega), hc, Array.getElem?_toList]
  by_cases e : j = i * 48 + 47
  · subst e
    rw [if_neg (by omega), if_pos (by omega), Array.getElem?_setIfInBounds_self_of_lt (by omega), Nat.add_sub_cancel_left]
    have := hx.size
    simp [cellP, this]
  · rw [Array.getElem?_setIfInBounds_ne (by omega)]
    by_cases e0 : j < i * 48
    · rw [if_pos e0]
    · rw [if_neg e0]
      by_cases e1 : j < i * 48 + 48
      · rw [if_pos e1]
        have := rowP_at h hp (show j - i * 48 < 48 by omega)
        rw [show i * 48 + (j - i * 48) = j by omega] at this
        rw [this]
        have hs := hx.size
        unfold cellP
        by_cases e2 : j - i * 48 < 46
        · rw [List.getElem?_append_left (by simpa [hs] using e2), List.getElem?_append_left (by simpa [hs] using e2)]
        · have e3 : j - i * 48 = 46 := by omega
          rw [e3]
          simp [hs]
      · rw [if_neg e1]
theorem SAt.setNext {w : World} {pb b : Nat} {first free : Int} {l : List (Place (Array Value))} (h : SAt w pb b first free l) {i : Nat} {p : Place (Array Value)} (hp : l[i]? = some p) (nx : Int) :
    SAt (w.setCell ⟨b, i * 48 + 47, none⟩ (.int .i64 nx)) pb b first free (l.set i { p with next := nx }) := by
  refine ⟨?_, ?_, h.ok.set (i := i) (p := ⟨p.x, p.taken, nx⟩) (h.ok.get hp : Pk p.x)⟩
  · rw [heap_setCell_other _ _ _ _ (by simpa using h.ne), List.length_set]
    exact h.ptr
  · rw [heap_setCell_same _ b (i * 48 + 47) _ _ (.int .i64 nx) h.row, rowP_setNext h.ok hp]
def newL (n k : Nat) : List (Place (Array Value)) := (List.range n).map fun i => ⟨PZ, false, if i < k then (i : Int) + 1 else 0⟩
def newF (n : Nat) : List (Place (Array Value)) := (List.range n).map fun i => ⟨PZ, false, if i + 1 < n then (i : Int) + 1 else -1⟩
theorem newL_at (n k i : Nat) (hi : i < n) : (newL n k)[i]? = some ⟨PZ, false, if i < k then (i : Int) + 1 else 0⟩ := by simp [newL, hi]
theorem newL_length (n k : Nat) : (newL n k).length = n := by simp [newL]
theorem newF_length (n : Nat) : (newF n).length = n := by simp [newF]
theorem newL_ok (n k : Nat) : AllPk (newL n k) := fun p hp => by
  obtain ⟨i, _, rfl⟩ := List.mem_map.1 hp
  exact pk_zero
theorem newL_step (n k : Nat) (hk : k < n) : (newL n k).set k ⟨PZ, false, (k : Int) + 1⟩ = newL n (k + 1) := by
  apply List.ext_getElem?
  intro j
  by_cases hj : j < n
  · rw [newL_at n (k + 1) j hj]
    by_cases e : j = k
    · subst e
      rw [List.getElem?_set_self (by rw [newL_length]; exact hj), if_pos (by omega)]
    · rw [List.getElem?_set_ne (by omega), newL_at n k j hj]
      congr 2
      by_cases h : j < k
      · rw [if_pos h, if_pos (by omega)]
      · rw [if_neg h, if_neg (by omega)]
  · rw [List.getElem?_eq_none (by rw [List.length_set, newL_length]; omega), List.getElem?_eq_none (by rw [newL_length]; omega)]
theorem newL_last (n : Nat) (hn : 0 < n) : (newL n n).set (n - 1) ⟨PZ, false, -1⟩ = newF n := by
  apply List.ext_getElem?
  intro j
  by_cases hj : j < n
  · rw [show (newF n)[j]? = some ⟨PZ, false, if j + 1 < n then (j : Int) + 1 else -1⟩ by simp [newF, hj]]
    by_cases e : j = n - 1
    · subst e
      rw [List.getElem?_set_self (by rw [newL_length]; exact hj), if_neg (by omega)]
    · rw [List.getElem?_set_ne (by omega), newL_at n n j hj, if_pos hj, if_pos (by omega)]
  · rw [List.getElem?_eq_none (by rw [List.length_set, newL_length]; omega), List.getElem?_eq_none (by rw [newF_length]; omega)]
theorem made_rep (z : List Value) (m : Nat) (hz : z.length = m) (hm : 0 < m) : ∀ n : Nat, (madeCells z.toArray (n * m)).toList = (List.replicate n z).flatten := by
  intro n
  unfold madeCells
  rw [Array.toList_map, Array.toList_range]
  induction n with
  | zero => simp
  | succ n ih =>
    rw [Nat.succ_mul, List.range_add, List.map_append, ih, List.replicate_succ', List.flatten_append]
    congr 1
    simp only [List.flatten_cons, List.flatten_nil, List.append_nil, List.map_map]
    apply List.ext_getElem?
    intro j
    by_cases hj : j < m
    · simp only [List.getElem?_map, List.getElem?_range hj, Option.map_some, Function.comp]
      have : (n * m + j) % z.toArray.size = j := by
        rw [List.size_toArray, hz, Nat.mul_comm, Nat.mul_add_mod, Nat.mod_eq_of_lt hj]
      rw [this]
      have hjz : j < z.length := by omega
      rw [List.getElem?_eq_getElem hjz]
      simp [hjz]
    · rw [List.getElem?_eq_none (by simp; omega), List.getElem?_eq_none (by omega)]
theorem new_rows (n : Nat) : (newL n 0).map cellP = List.replicate n (cellP ⟨PZ, false, 0⟩) := by
  apply List.ext_getElem?
  intro j
  by_cases hj : j < n
  · rw [List.getElem?_map, newL_at n 0 j hj, List.getElem?_replicate, if_pos hj, if_neg (by omega)]
    rfl
  · rw [List.getElem?_eq_none (by rw [List.length_map, newL_length]; omega), List.getElem?_eq_none (by rw [List.length_replicate]; omega)]
theorem make_places (n : Nat) (hn : n ≤ 65536) (W : World) : (Instr.makeSlice 300 (.int .i64 (n : Int)) (.int .i64 (n : Int))).run Tryz.prog W = .ok (.slice (some ⟨W.heap.size, 0, none⟩) n n) (W.alloc (.cells (rowP (newL n 0)) 299)) := by
  obtain ⟨i0, hi, hz0, hz1, hz2⟩ := info_parts (show (Tryz.prog.info? 299).map (fun i => (i.zero, i.size, i.bytes)) = some (some (.agg (cellP ⟨PZ, false, 0⟩).toArray), 48, 80) by kernel_rfl)
  have hr := run_make (P := Tryz.prog) W 300 299 i0 (.agg (cellP ⟨PZ, false, 0⟩).toArray) Tryz.underlying300 hi hz0 .i64 .i64 n n (by omega) (by omega) (by rw [hz2]; omega) (by omega)
  simp only [Int.toNat_natCast] at hr
  rw [hr, hz1]
  have e : madeCells (Value.agg (cellP ⟨PZ, false, 0⟩).toArray).cells (n * 48) = rowP (newL n 0) := by
    apply Array.toList_inj.1
    unfold rowP
    rw [new_rows]
    exact made_rep _ 48 (cellP_len (p := ⟨PZ, false, 0⟩) pk_zero) (by omega) n
  rw [e]
set_option maxHeartbeats 800000 in
theorem new_ok (n : Nat) (w : World) (h1 : 1 ≤ n) (h2 : n ≤ 4096) :
    Calls Tryz.prog 121 #[.int .i64 n] w fun e w' => e = .returned (.tuple #[.pointer (some ⟨w.heap.size + 1, 0, none⟩), .int .i64 0]) ∧ SAt w' (w.heap.size + 1) w.heap.size 0 n (newF n) ∧ Below w.heap.size w w' := by
  have hmk := make_places n (by omega)
  have hd1 : decide (n < 1) = false := by simp; omega
  have hd2 : decide (4096 < n) = false := by simp; omega
  go_enter Tryz.func121, Tryz.ntmps121
  go_wp2
  clear hmk
  go_loopw [22] (fun c wr => ∃ k : Nat, k ≤ n ∧ c = .int .i64 k ∧ SAt wr (w.heap.size + 1) w.heap.size 0 n (newL n k) ∧ Below w.heap.size w wr)
    (fun c _ => n - (intOf c).toNat)
  case atStart => exact ⟨0, by omega, rfl, ⟨by rw [heap_alloc2_new, newL_length], by rw [heap_alloc2_old], newL_ok n 0⟩, ((Below.refl _ _).alloc (Nat.le_refl _) _).alloc (by simp) _⟩
  case round =>
    obtain ⟨k, hk, rfl, hS, hB⟩ := hrel
    by_cases hlt : k < n
    · have hp := newL_at n k k hlt
      have c0 := hS.c0
      rw [newL_length] at c0
      have q2 := hS.nx hp
      have f2 : wr.frozen? ⟨w.heap.size, k * 48 + 47, none⟩ = false := frozen_of_row _ _ _ _ _ hS.row
      have h3 := hS.setNext hp ((k : Int) + 1)
      rw [newL_step n k hlt] at h3
      have H3 := Lib.hid h3
      clear hS hp h3
      go_wp2
      go_roundw
      case rel => exact ⟨k + 1, by omega, by go_num, H3.out, hB.setCell (by simp) _⟩
      case measure => simp [intOf]; omega
    · obtain rfl : k = n := by omega
      have hp := newL_at k k (k - 1) (by omega)
      have c0 := hS.c0
      rw [newL_length] at c0
      have q2 := hS.nx hp
      have f2 : wr.frozen? ⟨w.heap.size, (k - 1) * 48 + 47, none⟩ = false := frozen_of_row _ _ _ _ _ hS.row
      have h3 := hS.setNext hp (-1)
      rw [newL_last k (by omega)] at h3
      have H3 := Lib.hid h3
      have hk1 : ((k : Int) - 1).toNat = k - 1 := by omega
      have hk2 : 0 ≤ (k : Int) - 1 := by omega
      clear hS hp h3
      go_wp2
      go_ret2
      exact ⟨rfl, H3.out, hB.setCell (by simp) _⟩
/-- A slab in memory, told by what its places have and which are free. -/
def Slab (w : World) (pb b : Nat) (A : List (Option (Array Value))) (fl : List Nat) : Prop := ∃ first free l, SAt w pb b first free l ∧ SInv l first free fl ∧ absP l = A ∧ l.length ≤ 4096
section
variable {w : World} {pb b : Nat} {A : List (Option (Array Value))} {fl : List Nat}
theorem Slab.mem (h : Slab w pb b A fl) (i : Nat) : i ∈ fl ↔ A[i]? = some none := by
  obtain ⟨first, free, l, hS, hI, rfl, hl⟩ := h
  exact hI.mem_iff i
theorem Slab.nodup (h : Slab w pb b A fl) : fl.Nodup := by
  obtain ⟨first, free, l, hS, hI, rfl, hl⟩ := h
  exact hI.nodup
theorem Slab.drewN (h : Slab w pb b A fl) (n : Nat) : Slab (w.drewN n) pb b A fl := by
  obtain ⟨first, free, l, hS, hI, hA, hl⟩ := h
  exact ⟨first, free, l, hS.drewN n, hI, hA, hl⟩
theorem Slab.below (h : Slab w pb b A fl) {w' : World} (p : Below w.heap.size w w') : Slab w' pb b A fl := by
  obtain ⟨first, free, l, hS, hI, hA, hl⟩ := h
  exact ⟨first, free, l, hS.below p, hI, hA, hl⟩
theorem Slab.two (h : Slab w pb b A fl) {w' : World} {g k : Nat} (p : Two g k w w') (h1 : pb ≠ g) (h2 : pb ≠ k) (h3 : b ≠ g) (h4 : b ≠ k) : Slab w' pb b A fl := by
  obtain ⟨first, free, l, hS, hI, hA, hl⟩ := h
  exact ⟨first, free, l, hS.two p h1 h2 h3 h4, hI, hA, hl⟩
theorem Slab.lt (h : Slab w pb b A fl) : pb < w.heap.size ∧ b < w.heap.size := by
  obtain ⟨first, free, l, hS, _⟩ := h
  exact ⟨(Array.getElem?_eq_some_iff.1 hS.ptr).1, (Array.getElem?_eq_some_iff.1 hS.row).1⟩
theorem Slab.pk (h : Slab w pb b A fl) {i : Nat} {x : Array Value} (hx : A[i]? = some (some x)) : Pk x := by
  obtain ⟨first, free, l, hS, hI, rfl, hl⟩ := h
  obtain ⟨k, nx, hk, hp⟩ := getA_some (l := l) (i := (i : Int)) (x := x) (by rw [getA_nat, hx]; rfl)
  exact hS.ok.get hp
theorem s_new (n : Nat) (w : World) (h1 : 1 ≤ n) (h2 : n ≤ 4096) :
    Calls Tryz.prog 121 #[.int .i64 n] w fun e w' => e = .returned (.tuple #[.pointer (some ⟨w.heap.size + 1, 0, none⟩), .int .i64 0]) ∧ Slab w' (w.heap.size + 1) w.heap.size (List.replicate n none) (List.range' 0 n) ∧ Below w.heap.size w w' := by
  refine (new_ok n w h1 h2).mono ?_
  rintro e w' ⟨rfl, hS, hB⟩
  refine ⟨rfl, ⟨0, n, newF n, hS, SInv.new _ n (by omega), ?_, by rw [newF_length]; omega⟩, hB⟩
  apply List.ext_getElem?
  intro j
  by_cases hj : j < n
  · simp [absP, newF, hj]
  · rw [List.getElem?_eq_none (by rw [absP_length, newF_length]; omega), List.getElem?_eq_none (by simp; omega)]
theorem s_take_yes (i : Nat) (r : List Nat) (x : Array Value) (h : Slab w pb b A (i :: r)) (hx : Pk x) :
    Calls Tryz.prog 151 #[.pointer (some ⟨pb, 0, none⟩), .agg x] w fun e w' => e = .returned (.tuple #[.int .i64 i, .bool true]) ∧ Slab w' pb b (A.set i (some x)) r ∧ Two pb b w w' := by
  obtain ⟨first, free, l, hS, hI, rfl, hl⟩ := h
  obtain ⟨rfl, ⟨y, tk, nx⟩, hp, _⟩ := hI.head
  have hf := hI.free
  have hfl := hI.free_le
  refine (take_yes pb b i free nx x y tk l w hS (by omega) hp (by omega) (by omega) hx).mono ?_
  rintro e w' ⟨rfl, h1, h2⟩
  exact ⟨rfl, ⟨nx, free - 1, _, h1, hI.take hp x, by rw [absP_set]; rfl, by rw [List.length_set]; exact hl⟩, h2⟩
theorem s_give_yes (i : Int) (x : Array Value) (h : Slab w pb b A fl) (hg : getA A i = some x) :
    Calls Tryz.prog 170 #[.pointer (some ⟨pb, 0, none⟩), .int .i64 i] w fun e w' => e = .returned (.tuple #[.agg x, .bool true]) ∧ Slab w' pb b (A.set i.toNat none) (i.toNat :: fl) ∧ Two pb b w w' := by
  obtain ⟨first, free, l, hS, hI, rfl, hl⟩ := h
  obtain ⟨k, nx, rfl, hp⟩ := getA_some hg
  have hf := hI.free
  have hfl := hI.free_le
  refine (give_yes pb b k first free nx x l w hS (by omega) hp (by omega) (by omega)).mono ?_
  rintro e w' ⟨rfl, h1, h2⟩
  exact ⟨rfl, ⟨k, free + 1, _, h1, hI.give hp rfl _, by rw [absP_set]; rfl, by rw [List.length_set]; exact hl⟩, h2⟩
theorem s_get_yes (i : Int) (x : Array Value) (h : Slab w pb b A fl) (hg : getA A i = some x) :
    Calls Tryz.prog 86 #[.pointer (some ⟨pb, 0, none⟩), .int .i64 i] w fun e w' => e = .returned (.tuple #[.agg x, .bool true]) ∧ Below w.heap.size w w' := by
  obtain ⟨first, free, l, hS, hI, rfl, hl⟩ := h
  obtain ⟨k, nx, rfl, hp⟩ := getA_some hg
  exact get_yes pb b k first free nx l x w hS (by omega) hp
end
end Go.Proofs.YtpanmfdbdgecaaaGreat.C.PS

namespace Go.Proofs.YtpanmfdbdgecaaaGreat.C
set_option linter.unusedVariables false
/-- A packet's length. -/
def lenP (x : Array Value) : Int := match (x[45]? : Option Value) with | some (Value.int .i64 n) => n | _ => 0
def sumL (l : List (Array Value)) : Int := (l.map lenP).sum
def total {α : Type} (L : List (List α)) : Nat := (L.map List.length).sum
/-- A packet whose last cell is its length. -/
structure PkL (x : Array Value) (n : Int) : Prop where
  pk : Pk x
  len : x[45]? = some (.int .i64 n)
theorem PkL.lenP {x : Array Value} {n : Int} (h : PkL x n) : lenP x = n := by
  unfold C.lenP
  rw [h.len]
theorem total_set {α : Type} : ∀ (L : List (List α)) (c : Nat) (l l' : List α), L[c]? = some l → total (L.set c l') + l.length = total L + l'.length
  | [], c, l, l', h => by simp at h
  | m :: r, 0, l, l', h => by
    simp at h
    subst h
    simp [total]
    omega
  | m :: r, c + 1, l, l', h => by
    have := total_set r c l l' (by simpa using h)
    simp [total] at this ⊢
    omega
theorem total_le {α : Type} : ∀ (L : List (List α)) (l : List α), l ∈ L → l.length ≤ total L
  | [], l, h => by simp at h
  | m :: r, l, h => by
    rcases List.mem_cons.1 h with rfl | h
    · simp [total]
    · have := total_le r l h
      simp [total] at this ⊢
      omega
theorem sumL_append (l : List (Array Value)) (x : Array Value) : sumL (l ++ [x]) = sumL l + lenP x := by simp [sumL]
theorem sumL_erase : ∀ (l : List (Array Value)) (k : Nat) (x : Array Value), l[k]? = some x → sumL (l.eraseIdx k) = sumL l - lenP x
  | [], k, x, h => by simp at h
  | y :: r, 0, x, h => by
    simp at h
    subst h
    simp [sumL]
    omega
  | y :: r, k + 1, x, h => by
    have := sumL_erase r k x (by simpa using h)
    simp [sumL] at this ⊢
    omega
theorem sumL_bound (l : List (Array Value)) (h : ∀ x ∈ l, 1 ≤ lenP x ∧ lenP x ≤ 9216) : 0 ≤ sumL l ∧ sumL l ≤ 9216 * l.length := by
  induction l with
  | nil => simp [sumL]
  | cons y r ih =>
    have h1 := h y (by simp)
    have h2 := ih fun x hx => h x (by simp [hx])
    simp [sumL] at h2 ⊢
    omega
/-- The places, the lines of places and the lists of packets belong together. -/
structure Linked (A : List (Option (Array Value))) (Q : List (List Nat)) (L : List (List (Array Value))) (fl : List Nat) (R : Nat) : Prop where
  lenQ : Q.length = L.length
  lenA : A.length = R
  link : ∀ (c : Nat) (q : List Nat), Q[c]? = some q → ∃ l, L[c]? = some l ∧ q.map (fun p => (A[p]?).join) = l.map some
  ok : ∀ l ∈ L, ∀ x ∈ l, 1 ≤ lenP x ∧ lenP x ≤ 9216
  cnt : fl.length + total L = R
variable {A : List (Option (Array Value))} {Q : List (List Nat)} {L : List (List (Array Value))} {fl : List Nat} {R : Nat}
theorem Linked.new (n R : Nat) : Linked (List.replicate R none) (List.replicate n []) (List.replicate n []) (List.range' 0 R) R := by
  refine ⟨by simp, by simp, fun c q hq => ?_, fun l hl => ?_, ?_⟩
  · rw [List.getElem?_replicate] at hq
    split at hq
    · injection hq with hq
      subst hq
      exact ⟨[], by rw [List.getElem?_replicate, if_pos (by assumption)], rfl⟩
    · cases hq
  · obtain rfl := (List.mem_replicate.1 hl).2
    simp
  · have : total (List.replicate n ([] : List (Array Value))) = 0 := by
      simp [total]
    rw [this]
    simp
/-- What the k-th place of a line has. -/
theorem Linked.at_ (h : Linked A Q L fl R) {c k p : Nat} {q : List Nat} (hq : Q[c]? = some q) (hp : q[k]? = some p) : ∃ l x, L[c]? = some l ∧ l[k]? = some x ∧ A[p]? = some (some x) := by
  obtain ⟨l, hl, e⟩ := h.link c q hq
  have h1 : (q.map (fun p => (A[p]?).join))[k]? = some ((A[p]?).join) := by simp [hp]
  rw [e, List.getElem?_map] at h1
  cases hx : l[k]? with
  | none => rw [hx] at h1; cases h1
  | some x =>
    rw [hx] at h1
    injection h1 with h1
    refine ⟨l, x, hl, hx, ?_⟩
    cases ha : A[p]? with
    | none => rw [ha] at h1; cases h1
    | some o =>
      rw [ha] at h1
      have h1 : some x = o := h1
      rw [← h1]
theorem Linked.line (h : Linked A Q L fl R) {c : Nat} {l : List (Array Value)} (hl : L[c]? = some l) : ∃ q, Q[c]? = some q ∧ q.length = l.length := by
  have hc : c < Q.length := by rw [h.lenQ]; exact lt_of_some hl
  obtain ⟨l', hl', e⟩ := h.link c _ (List.getElem?_eq_getElem hc)
  rw [hl] at hl'
  injection hl' with hl'
  subst hl'
  refine ⟨_, List.getElem?_eq_getElem hc, ?_⟩
  have := congrArg List.length e
  simpa using this
/-- A free place is in no line. -/
theorem Linked.free (h : Linked A Q L fl R) {i : Nat} (hi : A[i]? = some none) {c : Nat} {q : List Nat} (hq : Q[c]? = some q) : i ∉ q := by
  intro hm
  obtain ⟨k, hk⟩ := List.getElem?_of_mem hm
  obtain ⟨_, x, _, _, hx⟩ := h.at_ hq hk
  rw [hi] at hx
  cases hx
theorem Linked.push {i : Nat} {r : List Nat} (h : Linked A Q L (i :: r) R) (hi : A[i]? = some none) {c : Nat} {q : List Nat} {l : List (Array Value)} (hq : Q[c]? = some q) (hl : L[c]? = some l) {x : Array Value} (hx : 1 ≤ lenP x ∧ lenP x ≤ 9216) :
    Linked (A.set i (some x)) (Q.set c (q ++ [i])) (L.set c (l ++ [x])) r R := by
  have hc := lt_of_some hq
  have hcl := lt_of_some hl
  have key : ∀ (c' : Nat) (q' : List Nat), Q[c']? = some q' → q'.map (fun p => ((A.set i (some x))[p]?).join) = q'.map (fun p => (A[p]?).join) := by
    intro c' q' hq'
    apply List.map_congr_left
    intro p hp
    have : i ≠ p := fun e => h.free hi hq' (e ▸ hp)
    rw [List.getElem?_set_ne this]
  refine ⟨by simpa using h.lenQ, by simpa using h.lenA, fun c' q' hq' => ?_, fun l' hl' y hy => ?_, ?_⟩
  · rcases get_set hq' with ⟨rfl, rfl⟩ | ⟨hne, hq'⟩
    · refine ⟨l ++ [x], List.getElem?_set_self hcl, ?_⟩
      obtain ⟨l2, hl2, e⟩ := h.link c' q hq
      rw [hl] at hl2
      injection hl2 with hl2
      subst hl2
      rw [List.map_append, List.map_append, key c' q hq, e]
      simp [List.getElem?_set_self (lt_of_some hi)]
    · obtain ⟨l2, hl2, e⟩ := h.link c' q' hq'
      exact ⟨l2, by rw [List.getElem?_set_ne (fun e => hne e.symm)]; exact hl2, by rw [key c' q' hq', e]⟩
  · rcases List.mem_or_eq_of_mem_set hl' with hl' | rfl
    · exact h.ok l' hl' y hy
    · rcases List.mem_append.1 hy with hy | hy
      · exact h.ok l (List.mem_of_getElem? hl) y hy
      · obtain rfl := List.mem_singleton.1 hy
        exact hx
  · have h1 := total_set L c l (l ++ [x]) hl
    have h2 := h.cnt
    simp only [List.length_append, List.length_cons, List.length_nil] at h1 h2
    omega
theorem Linked.cut (h : Linked A Q L fl R) {c k p : Nat} {q : List Nat} {l : List (Array Value)} (hq : Q[c]? = some q) (hp : q[k]? = some p) (hl : L[c]? = some l) (hn : q.Nodup) (hd : ∀ (c' : Nat) (q' : List Nat), Q[c']? = some q' → p ∈ q' → c' = c) :
    Linked (A.set p none) (Q.set c (q.eraseIdx k)) (L.set c (l.eraseIdx k)) (p :: fl) R := by
  have hc := lt_of_some hq
  have hcl := lt_of_some hl
  have hpe : p ∉ q.eraseIdx k := by
    intro hm
    have hk := lt_of_some hp
    rw [List.getElem?_eq_getElem hk] at hp
    injection hp with hp
    obtain ⟨i, hi, e⟩ := List.mem_iff_getElem.1 hm
    rw [List.getElem_eraseIdx] at e
    rw [List.length_eraseIdx_of_lt hk] at hi
    have hne := List.pairwise_iff_getElem.1 hn
    split at e
    · exact hne i k (by omega) hk (by omega) (e.trans hp.symm)
    · exact hne k (i + 1) hk (by omega) (by omega) (hp.trans e.symm)
  refine ⟨by simpa using h.lenQ, by simpa using h.lenA, fun c' q' hq' => ?_, fun l' hl' y hy => ?_, ?_⟩
  · rcases get_set hq' with ⟨rfl, rfl⟩ | ⟨hne, hq'⟩
    · refine ⟨l.eraseIdx k, List.getElem?_set_self hcl, ?_⟩
      obtain ⟨l2, hl2, e⟩ := h.link c' q hq
      rw [hl] at hl2
      injection hl2 with hl2
      subst hl2
      have : (q.eraseIdx k).map (fun p' => ((A.set p none)[p']?).join) = (q.eraseIdx k).map (fun p' => (A[p']?).join) := by
        apply List.map_congr_left
        intro p' hp'
        have : p ≠ p' := fun e => hpe (e ▸ hp')
        rw [List.getElem?_set_ne this]
      rw [this, List.eraseIdx_eq_take_drop_succ, List.eraseIdx_eq_take_drop_succ, List.map_append, List.map_append, List.map_take, List.map_take, List.map_drop, List.map_drop, e]
    · obtain ⟨l2, hl2, e⟩ := h.link c' q' hq'
      refine ⟨l2, by rw [List.getElem?_set_ne (fun e => hne e.symm)]; exact hl2, ?_⟩
      rw [← e]
      apply List.map_congr_left
      intro p' hp'
      have : p ≠ p' := fun e => hne (hd c' q' hq' (e ▸ hp'))
      rw [List.getElem?_set_ne this]
  · rcases List.mem_or_eq_of_mem_set hl' with hl' | rfl
    · exact h.ok l' hl' y hy
    · exact h.ok l (List.mem_of_getElem? hl) y (List.mem_of_mem_eraseIdx hy)
  · obtain ⟨l2, x, hl2, hx, _⟩ := h.at_ hq hp
    rw [hl] at hl2
    injection hl2 with hl2
    subst hl2
    have h1 := total_set L c l (l.eraseIdx k) hl
    have h2 := h.cnt
    have h3 := List.length_eraseIdx_of_lt (lt_of_some hx)
    have h4 := lt_of_some hx
    have h5 := total_le L l (List.mem_of_getElem? hl)
    simp only [List.length_cons]
    omega
/-- The row of the classes' bytes. -/
def bytesV (L : List (List (Array Value))) : List Value := L.map fun l => Value.int .i64 (sumL l)
theorem bytesV_set (L : List (List (Array Value))) (c : Nat) (l : List (Array Value)) : bytesV (L.set c l) = (bytesV L).set c (.int .i64 (sumL l)) := by simp [bytesV, List.map_set]
theorem bytesV_at {L : List (List (Array Value))} {c : Nat} {l : List (Array Value)} (h : L[c]? = some l) : (bytesV L)[c]? = some (.int .i64 (sumL l)) := by simp [bytesV, h]
end Go.Proofs.YtpanmfdbdgecaaaGreat.C
