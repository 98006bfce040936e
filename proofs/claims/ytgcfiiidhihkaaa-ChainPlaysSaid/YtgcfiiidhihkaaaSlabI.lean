/- The walks of slab.Slab[int] over a slab that lies in memory. -/
import Derived.Test.YtgcfiiidhihkaaaBase
import Derived.Test.YtgcfiiidhihkaaaSlabP
import Derived.Test.YtgcfiiidhihkaaaProg
import Derived.KernelRfl
import Derived.StillTailTactics
import Derived.Deep.QuietTactic
import Derived.BigQuiet
import Derived.Outline
import Derived.Laws.MakeOwn
namespace Go.Proofs.Ytgcfiiidhihkaaa.C.SI
open Go.RowKit
set_option linter.unusedVariables false

/-- The places' cells. -/
def cellsOf : List (Place Int) → List Value
  | [] => []
  | p :: r => (Value.int .i64 p.x) :: .bool p.taken :: .int .i64 p.next :: cellsOf r
def rowOf (l : List (Place Int)) : Array Value := (cellsOf l).toArray
theorem cellsOf_length (l : List (Place Int)) : (cellsOf l).length = l.length * 3 := by
  induction l with
  | nil => rfl
  | cons p r ih => simp [cellsOf, ih]; omega
theorem cellsOf_at : ∀ (l : List (Place Int)) (i : Nat) (p : Place Int), l[i]? = some p → (cellsOf l)[i * 3]? = some (Value.int .i64 p.x) ∧ (cellsOf l)[i * 3 + 1]? = some (.bool p.taken) ∧ (cellsOf l)[i * 3 + 2]? = some (.int .i64 p.next)
  | p :: r, 0, q, h => by
    simp at h
    subst h
    exact ⟨rfl, rfl, rfl⟩
  | p :: r, i + 1, q, h => by
    simp at h
    obtain ⟨h1, h2, h3⟩ := cellsOf_at r i q h
    have e : (i + 1) * 3 = i * 3 + 3 := by omega
    rw [e]
    exact ⟨h1, h2, h3⟩
theorem cellsOf_set : ∀ (l : List (Place Int)) (i : Nat) (p : Place Int), i < l.length → cellsOf (l.set i p) = (((cellsOf l).set (i * 3) (Value.int .i64 p.x)).set (i * 3 + 1) (.bool p.taken)).set (i * 3 + 2) (.int .i64 p.next)
  | q :: r, 0, p, _ => rfl
  | q :: r, i + 1, p, h => by
    have e : (i + 1) * 3 = i * 3 + 3 := by omega
    rw [e]
    show cellsOf (q :: r.set i p) = _
    simp only [cellsOf, List.set_cons_succ]
    rw [cellsOf_set r i p (by simpa using h)]

/-- A slab in memory: its struct in block pb, its places in block b. -/
structure SAt (w : World) (pb b : Nat) (first free : Int) (l : List (Place Int)) : Prop where
  ptr : w.heap[pb]? = some (.cells #[.slice (some ⟨b, 0, none⟩) l.length l.length, .int .i64 first, .int .i64 free] 107 (0, 0))
  row : w.heap[b]? = some (.cells (rowOf l) 109 (0, 0))
section
variable {w : World} {pb b : Nat} {first free : Int} {l : List (Place Int)}
theorem SAt.ne (h : SAt w pb b first free l) : pb ≠ b := by
  rintro rfl
  have := h.ptr.symm.trans h.row
  injection this with this
  injection this with _ h2
  exact absurd h2 (by decide)
theorem SAt.c0 (h : SAt w pb b first free l) : w.cell? ⟨pb, 0, none⟩ = some (.slice (some ⟨b, 0, none⟩) l.length l.length) := by rw [cell_of_row _ _ _ _ _ _ h.ptr]; rfl
theorem SAt.c1 (h : SAt w pb b first free l) : w.cell? ⟨pb, 1, none⟩ = some (.int .i64 first) := by rw [cell_of_row _ _ _ _ _ _ h.ptr]; rfl
theorem SAt.c2 (h : SAt w pb b first free l) : w.cell? ⟨pb, 2, none⟩ = some (.int .i64 free) := by rw [cell_of_row _ _ _ _ _ _ h.ptr]; rfl
theorem SAt.at_ (h : SAt w pb b first free l) {i : Nat} {p : Place Int} (hp : l[i]? = some p) :
    w.cell? ⟨b, i * 3, none⟩ = some (Value.int .i64 p.x) ∧ w.cell? ⟨b, i * 3 + 1, none⟩ = some (.bool p.taken) ∧ w.cell? ⟨b, i * 3 + 2, none⟩ = some (.int .i64 p.next) := by
  obtain ⟨h1, h2, h3⟩ := cellsOf_at l i p hp
  refine ⟨?_, ?_, ?_⟩ <;> rw [cell_of_row _ _ _ _ _ _ h.row] <;> simpa [rowOf]
theorem SAt.f (h : SAt w pb b first free l) (j : Nat) : w.frozen? ⟨pb, j, none⟩ = false := frozen_of_row _ _ _ _ _ h.ptr
theorem SAt.fr (h : SAt w pb b first free l) (j : Nat) : w.frozen? ⟨b, j, none⟩ = false := frozen_of_row _ _ _ _ _ h.row
theorem SAt.drewN (h : SAt w pb b first free l) (n : Nat) : SAt (w.drewN n) pb b first free l := ⟨h.ptr, h.row⟩
theorem SAt.setFirst (h : SAt w pb b first free l) (x : Int) : SAt (w.setCell ⟨pb, 1, none⟩ (.int .i64 x)) pb b x free l :=
  ⟨by rw [heap_setCell_same _ _ _ _ _ _ h.ptr]; rfl, by rw [heap_setCell_other _ _ _ _ (by simpa using h.ne.symm)]; exact h.row⟩
theorem SAt.setFree (h : SAt w pb b first free l) (x : Int) : SAt (w.setCell ⟨pb, 2, none⟩ (.int .i64 x)) pb b first x l :=
  ⟨by rw [heap_setCell_same _ _ _ _ _ _ h.ptr]; rfl, by rw [heap_setCell_other _ _ _ _ (by simpa using h.ne.symm)]; exact h.row⟩
theorem SAt.setPlace (h : SAt w pb b first free l) (i : Nat) (hi : i < l.length) (p : Place Int) :
    SAt (((w.setCell ⟨b, i * 3, none⟩ (Value.int .i64 p.x)).setCell ⟨b, i * 3 + 1, none⟩ (.bool p.taken)).setCell ⟨b, i * 3 + 2, none⟩ (.int .i64 p.next)) pb b first free (l.set i p) := by
  have hne : ∀ j : Nat, pb ≠ (⟨b, j, none⟩ : Addr).block := fun j => by simpa using h.ne
  refine ⟨?_, ?_⟩
  · rw [heap_setCell_other _ _ _ _ (hne _), heap_setCell_other _ _ _ _ (hne _), heap_setCell_other _ _ _ _ (hne _), List.length_set]
    exact h.ptr
  · have h1 := heap_setCell_same _ b (i * 3) _ _ (Value.int .i64 p.x) h.row
    have h2 := heap_setCell_same _ b (i * 3 + 1) _ _ (.bool p.taken) h1
    have h3 := heap_setCell_same _ b (i * 3 + 2) _ _ (.int .i64 p.next) h2
    rw [h3]
    unfold rowOf
    rw [cellsOf_set l i p hi]
    simp
theorem SAt.setVal (h : SAt w pb b first free l) (i : Nat) {p : Place Int} (hp : l[i]? = some p) (x : Int) :
    SAt (w.setCell ⟨b, i * 3, none⟩ (Value.int .i64 x)) pb b first free (l.set i { p with x := x }) := by
  have hi : i < l.length := by
    rcases Nat.lt_or_ge i l.length with h | h
    · exact h
    · rw [List.getElem?_eq_none h] at hp; cases hp
  obtain ⟨_, h2, h3⟩ := cellsOf_at l i p hp
  refine ⟨?_, ?_⟩
  · rw [heap_setCell_other _ _ _ _ (by simpa using h.ne), List.length_set]
    exact h.ptr
  · rw [heap_setCell_same _ b (i * 3) _ _ (Value.int .i64 x) h.row]
    unfold rowOf
    rw [cellsOf_set l i _ hi]
    have hl := cellsOf_length l
    congr 2
    simp only [List.setIfInBounds_toArray]
    congr 1
    apply List.ext_getElem?
    intro j
    symm
    by_cases e2 : j = i * 3 + 2
    · subst e2
      rw [List.getElem?_set_self (by simp only [List.length_set]; omega), List.getElem?_set_ne (by omega), h3]
    · rw [List.getElem?_set_ne (by omega)]
      by_cases e1 : j = i * 3 + 1
      · subst e1
        rw [List.getElem?_set_self (by simp only [List.length_set]; omega), List.getElem?_set_ne (by omega), h2]
      · rw [List.getElem?_set_ne (by omega)]
theorem SAt.two (h : SAt w pb b first free l) {w' : World} {g k : Nat} (p : Two g k w w') (h1 : pb ≠ g) (h2 : pb ≠ k) (h3 : b ≠ g) (h4 : b ≠ k) : SAt w' pb b first free l :=
  ⟨(p.block pb (Array.getElem?_eq_some_iff.1 h.ptr).1 h1 h2).trans h.ptr, (p.block b (Array.getElem?_eq_some_iff.1 h.row).1 h3 h4).trans h.row⟩
theorem SAt.below (h : SAt w pb b first free l) {w' : World} (p : Below w.heap.size w w') : SAt w' pb b first free l :=
  ⟨(p.block pb (Array.getElem?_eq_some_iff.1 h.ptr).1).trans h.ptr, (p.block b (Array.getElem?_eq_some_iff.1 h.row).1).trans h.row⟩
end

theorem has_nil (i : Int) (w : World) : Calls Try.prog 57 #[.pointer none, .int .i64 i] w fun e w' => e = .returned (.bool false) ∧ w' = w := by
  go_enter Try.func57, Try.ntmps57
  go_wp2
  go_ret
  exact ⟨rfl, rfl⟩
theorem has_any (pb b : Nat) (first free i : Int) (l : List (Place Int)) (w : World) (h : SAt w pb b first free l) (hl : l.length ≤ 65536) :
    Calls Try.prog 57 #[.pointer (some ⟨pb, 0, none⟩), .int .i64 i] w fun e w' => e = .returned (.bool (hasP l i)) ∧ w' = w := by
  have c0 := h.c0
  by_cases h0 : i < 0
  · rw [hasP_out (.inl h0)]
    clear h
    go_enter Try.func57, Try.ntmps57
    go_wp2
    go_ret
    exact ⟨rfl, rfl⟩
  · have h0' : 0 ≤ i := by omega
    by_cases h1 : (l.length : Int) ≤ i
    · rw [hasP_out (.inr h1)]
      have hd : decide (i < (l.length : Int)) = false := by simp; omega
      clear h
      go_enter Try.func57, Try.ntmps57
      go_wp2
      go_ret
      exact ⟨rfl, rfl⟩
    · obtain ⟨i, rfl⟩ := Int.eq_ofNat_of_zero_le h0'
      have hi : i < l.length := by omega
      obtain ⟨p, hp⟩ : ∃ p, l[i]? = some p := ⟨_, List.getElem?_eq_getElem hi⟩
      obtain ⟨_, q1, _⟩ := h.at_ hp
      rw [hasP_in hp]
      clear h hp
      cases ht : p.taken with
      | false =>
        rw [ht] at q1
        clear ht
        go_enter Try.func57, Try.ntmps57
        go_wp2
        go_ret
        exact ⟨rfl, rfl⟩
      | true =>
        rw [ht] at q1
        clear ht
        go_enter Try.func57, Try.ntmps57
        go_wp2
        go_ret
        exact ⟨rfl, rfl⟩
theorem get_no (pb b : Nat) (first free i : Int) (l : List (Place Int)) (w : World) (h : SAt w pb b first free l) (hl : l.length ≤ 65536) (hh : hasP l i = false) :
    Calls Try.prog 23 #[.pointer (some ⟨pb, 0, none⟩), .int .i64 i] w fun e w' => e = .returned (.tuple #[.int .i64 0, .bool false]) ∧ w' = w := by
  have C := Lib.hid (has_any pb b first free i l w h hl)
  rw [hh] at C
  clear h hh
  go_enter Try.func23, Try.ntmps23
  go_wp2_with fail
  refine C.out.mono ?_
  rintro e w1 ⟨rfl, rfl⟩
  go_wp2
  go_ret2
  exact ⟨rfl, rfl⟩
theorem get_yes (pb b i : Nat) (first free : Int) (l : List (Place Int)) (p : Place Int) (w : World) (h : SAt w pb b first free l) (hl : l.length ≤ 65536) (hp : Hid (l[i]? = some p)) (ht : p.taken = true) :
    Calls Try.prog 23 #[.pointer (some ⟨pb, 0, none⟩), .int .i64 i] w fun e w' => e = .returned (.tuple #[(Value.int .i64 p.x), .bool true]) ∧ w' = w := by
  have C := Lib.hid (has_any pb b first free i l w h hl)
  rw [hasP_in hp.out, ht] at C
  have hi := lt_of_some hp.out
  have c0 := h.c0
  obtain ⟨q0, _, _⟩ := h.at_ hp.out
  generalize p.x = x at *
  clear h ht
  go_enter Try.func23, Try.ntmps23
  go_wp2_with fail
  refine C.out.mono ?_
  rintro e w1 ⟨rfl, rfl⟩
  go_wp2
  go_ret2
  exact ⟨rfl, rfl⟩
theorem free_any (pb b : Nat) (first free : Int) (l : List (Place Int)) (w : World) (h : SAt w pb b first free l) :
    Calls Try.prog 24 #[.pointer (some ⟨pb, 0, none⟩)] w fun e w' => e = .returned (.int .i64 free) ∧ w' = w := by
  have c2 := h.c2
  clear h
  go_enter Try.func24, Try.ntmps24
  go_wp2
  go_ret
  exact ⟨rfl, rfl⟩
theorem free_nil (w : World) : Calls Try.prog 24 #[.pointer none] w fun e w' => e = .returned (.int .i64 0) ∧ w' = w := by
  go_enter Try.func24, Try.ntmps24
  go_wp2
  go_ret
  exact ⟨rfl, rfl⟩
theorem take_no (pb b : Nat) (first free : Int) (x : Int) (l : List (Place Int)) (w : World) (h : SAt w pb b first free l) (hf : first < 0) :
    Calls Try.prog 21 #[.pointer (some ⟨pb, 0, none⟩), .int .i64 x] w fun e w' => e = .returned (.tuple #[.int .i64 0, .bool false]) ∧ w' = w := by
  have c1 := h.c1
  clear h
  go_enter Try.func21, Try.ntmps21
  go_wp2
  go_ret2
  exact ⟨rfl, rfl⟩
set_option maxHeartbeats 400000 in
theorem take_yes (pb b i : Nat) (free nx : Int) (x y : Int) (tk : Bool) (l : List (Place Int)) (w : World) (h : SAt w pb b i free l) (hl : l.length ≤ 65536) (hp : Hid (l[i]? = some ⟨y, tk, nx⟩)) (hf0 : 0 ≤ free) (hf1 : free ≤ 65536) :
    Calls Try.prog 21 #[.pointer (some ⟨pb, 0, none⟩), .int .i64 x] w fun e w' => e = .returned (.tuple #[.int .i64 i, .bool true]) ∧ SAt w' pb b nx (free - 1) (l.set i ⟨x, true, 0⟩) ∧ Two pb b w w' := by
  have hi := lt_of_some hp.out
  have c0 := h.c0
  have c1 := h.c1
  obtain ⟨q0, q1, q2⟩ := h.at_ hp.out
  have f1 := h.f 1
  have h1 := h.setFirst nx
  obtain ⟨r0, r1, r2⟩ := h1.at_ hp.out
  have d0 := h1.c0
  have g0 := h1.fr (i * 3)
  have g1 := h1.fr (i * 3 + 1)
  have g2 := h1.fr (i * 3 + 2)
  have h2 := h1.setPlace i hi ⟨x, true, 0⟩
  have e2 := h2.c2
  have k2 := h2.f 2
  have H3 := Lib.hid (h2.setFree (free - 1))
  have HT : Hid (∀ u v z t : Value, Two pb b w (((((w.setCell ⟨pb, 1, none⟩ u).setCell ⟨b, i * 3, none⟩ v).setCell ⟨b, i * 3 + 1, none⟩ z).setCell ⟨b, i * 3 + 2, none⟩ t).setCell ⟨pb, 2, none⟩ (.int .i64 (free - 1)))) := fun u v z t =>
    (((((Two.refl pb b w).setCell (.inl rfl) u).setCell (.inr rfl) v).setCell (.inr rfl) z).setCell (.inr rfl) t).setCell (.inl rfl) _
  clear h h1 h2
  go_enter Try.func21, Try.ntmps21
  go_wp2
  go_ret2
  exact ⟨rfl, H3.out, HT.out _ _ _ _⟩

theorem SAt.setNext {w : World} {pb b : Nat} {first free : Int} {l : List (Place Int)} (h : SAt w pb b first free l) (i : Nat) {p : Place Int} (hp : l[i]? = some p) (nx : Int) :
    SAt (w.setCell ⟨b, i * 3 + 2, none⟩ (.int .i64 nx)) pb b first free (l.set i { p with next := nx }) := by
  have hi := lt_of_some hp
  obtain ⟨h1, h2, _⟩ := cellsOf_at l i p hp
  refine ⟨?_, ?_⟩
  · rw [heap_setCell_other _ _ _ _ (by simpa using h.ne), List.length_set]
    exact h.ptr
  · rw [heap_setCell_same _ b (i * 3 + 2) _ _ (.int .i64 nx) h.row]
    unfold rowOf
    rw [cellsOf_set l i _ hi]
    have hl := cellsOf_length l
    congr 2
    simp only [List.setIfInBounds_toArray]
    congr 1
    apply List.ext_getElem?
    intro j
    symm
    by_cases e2 : j = i * 3 + 2
    · subst e2
      rw [List.getElem?_set_self (by simp only [List.length_set]; omega), List.getElem?_set_self (by omega)]
    · rw [List.getElem?_set_ne (by omega), List.getElem?_set_ne (i := i * 3 + 2) (by omega)]
      by_cases e1 : j = i * 3 + 1
      · subst e1
        rw [List.getElem?_set_self (by simp only [List.length_set]; omega), h2]
      · rw [List.getElem?_set_ne (by omega)]
        by_cases e0 : j = i * 3
        · subst e0
          rw [List.getElem?_set_self (by omega), h1]
        · rw [List.getElem?_set_ne (by omega)]
theorem give_no (pb b : Nat) (first free i : Int) (l : List (Place Int)) (w : World) (h : SAt w pb b first free l) (hl : l.length ≤ 65536) (hh : hasP l i = false) :
    Calls Try.prog 22 #[.pointer (some ⟨pb, 0, none⟩), .int .i64 i] w fun e w' => e = .returned (.tuple #[.int .i64 0, .bool false]) ∧ w' = w := by
  have C := Lib.hid (get_no pb b first free i l w h hl hh)
  clear h hh
  go_enter Try.func22, Try.ntmps22
  go_wp2_with fail
  refine C.out.mono ?_
  rintro e w1 ⟨rfl, rfl⟩
  go_wp2
  go_ret2
  exact ⟨rfl, rfl⟩
set_option maxRecDepth 100000 in
set_option maxHeartbeats 400000 in
theorem give_yes (pb b i : Nat) (first free nx : Int) (x : Int) (l : List (Place Int)) (w : World) (h : SAt w pb b first free l) (hl : l.length ≤ 65536) (hp : Hid (l[i]? = some ⟨x, true, nx⟩)) (hf0 : 0 ≤ free) (hf1 : free ≤ 65536) :
    Calls Try.prog 22 #[.pointer (some ⟨pb, 0, none⟩), .int .i64 i] w fun e w' => e = .returned (.tuple #[.int .i64 x, .bool true]) ∧ SAt w' pb b i (free + 1) (l.set i ⟨0, false, first⟩) ∧ Two pb b w w' := by
  have C := Lib.hid (get_yes pb b i first free l ⟨x, true, nx⟩ w h hl hp rfl)
  have hi := lt_of_some hp.out
  have H := Lib.hid h
  clear h
  go_enter Try.func22, Try.ntmps22
  go_wp2_with fail
  refine C.out.mono ?_
  rintro e w1 ⟨rfl, rfl⟩
  clear C
  go_wp2_with fail
  refine wp_region_still_tail 11 (by kernel_rfl) (by kernel_rfl) ?_
  change wpStill _ _ w1.drew (fun a' => wpList _ _ _ _ a' w1.drew) _ _
  simp only [List.take_succ_cons, List.take_zero, List.drop_succ_cons, List.drop_zero]
  have h' : SAt w1.drew pb b first free l := ⟨H.out.ptr, H.out.row⟩
  have p1 : Two pb b w1 w1.drew := (Two.refl pb b w1).drewN 1
  generalize w1.drew = w2 at h' p1 ⊢
  have c0 := h'.c0
  have c1 := h'.c1
  have HH := Lib.hid h'
  clear h'
  iterate 11 still_step
  refine wpStill_nil ?_
  have h' := HH.out
  clear HH
  obtain ⟨q0, q1, q2⟩ := h'.at_ hp.out
  have g0 := h'.fr (i * 3)
  have g1 := h'.fr (i * 3 + 1)
  have g2 := h'.fr (i * 3 + 2)
  have h2 := h'.setPlace i hi ⟨0, false, first⟩
  have e0 := h2.c0
  have e1 := h2.c1
  have f1 := h2.f 1
  have h3 := h2.setFirst i
  have e3 := h3.c2
  have f3 := h3.f 2
  have H3 := Lib.hid (h3.setFree (free + 1))
  have HT : Hid (∀ v z t u s : Value, Two pb b w1 (((((w2.setCell ⟨b, i * 3, none⟩ v).setCell ⟨b, i * 3 + 1, none⟩ z).setCell ⟨b, i * 3 + 2, none⟩ t).setCell ⟨pb, 1, none⟩ u).setCell ⟨pb, 2, none⟩ s)) := fun v z t u s =>
    ((((p1.setCell (.inr rfl) v).setCell (.inr rfl) z).setCell (.inr rfl) t).setCell (.inl rfl) u).setCell (.inl rfl) s
  clear h' h2 h3 p1
  go_wp2
  go_ret2
  exact ⟨rfl, H3.out, HT.out _ _ _ _ _⟩

/-- The places of a new slab, when k of them have been told their next one. -/
def newL (n k : Nat) : List (Place Int) := (List.range n).map fun i => ⟨0, false, if i < k then (i : Int) + 1 else 0⟩
/-- .. when all is done. -/
def newF (n : Nat) : List (Place Int) := (List.range n).map fun i => ⟨0, false, if i + 1 < n then (i : Int) + 1 else -1⟩
theorem newL_at (n k i : Nat) (hi : i < n) : (newL n k)[i]? = some ⟨0, false, if i < k then (i : Int) + 1 else 0⟩ := by simp [newL, hi]
theorem newL_length (n k : Nat) : (newL n k).length = n := by simp [newL]
theorem newF_length (n : Nat) : (newF n).length = n := by simp [newF]
theorem newL_step (n k : Nat) (hk : k < n) : (newL n k).set k ⟨0, false, (k : Int) + 1⟩ = newL n (k + 1) := by
  apply List.ext_getElem?
  intro j
  by_cases hj : j < n
  · rw [newL_at n (k + 1) j hj]
    by_cases e : j = k
    · subst e
      rw [List.getElem?_set_self (by rw [newL_length]; exact hj), if_pos (by omega)]
    · rw [List.getElem?_set_ne (by omega), newL_at n k j hj]
      congr 2
      by_cases h : j < k
      · rw [if_pos h, if_pos (by omega)]
      · rw [if_neg h, if_neg (by omega)]
  · rw [List.getElem?_eq_none (by rw [List.length_set, newL_length]; omega), List.getElem?_eq_none (by rw [newL_length]; omega)]
theorem newL_last (n : Nat) (hn : 0 < n) : (newL n n).set (n - 1) ⟨0, false, -1⟩ = newF n := by
  apply List.ext_getElem?
  intro j
  by_cases hj : j < n
  · rw [show (newF n)[j]? = some ⟨0, false, if j + 1 < n then (j : Int) + 1 else -1⟩ by simp [newF, hj]]
    by_cases e : j = n - 1
    · subst e
      rw [List.getElem?_set_self (by rw [newL_length]; exact hj), if_neg (by omega)]
    · rw [List.getElem?_set_ne (by omega), newL_at n n j hj, if_pos hj, if_pos (by omega)]
  · rw [List.getElem?_eq_none (by rw [List.length_set, newL_length]; omega), List.getElem?_eq_none (by rw [newF_length]; omega)]
theorem made_rep (z : List Value) (m : Nat) (hz : z.length = m) (hm : 0 < m) : ∀ n : Nat, (madeCells z.toArray (n * m)).toList = (List.replicate n z).flatten := by
  intro n
  unfold madeCells
  rw [Array.toList_map, Array.toList_range]
  induction n with
  | zero => simp
  | succ n ih =>
    rw [Nat.succ_mul, List.range_add, List.map_append, ih, List.replicate_succ', List.flatten_append]
    congr 1
    simp only [List.flatten_cons, List.flatten_nil, List.append_nil, List.map_map]
    apply List.ext_getElem?
    intro j
    by_cases hj : j < m
    · simp only [List.getElem?_map, List.getElem?_range hj, Option.map_some, Function.comp]
      have : (n * m + j) % z.toArray.size = j := by
        rw [List.size_toArray, hz, Nat.mul_comm, Nat.mul_add_mod, Nat.mod_eq_of_lt hj]
      rw [this]
      have hjz : j < z.length := by omega
      rw [List.getElem?_eq_getElem hjz]
      simp [hjz]
    · rw [List.getElem?_eq_none (by simp; omega), List.getElem?_eq_none (by omega)]
theorem cellsOf_new (n : Nat) : cellsOf (newL n 0) = (List.replicate n [Value.int .i64 0, Value.bool false, Value.int .i64 0]).flatten := by
  unfold newL
  induction n with
  | zero => rfl
  | succ n ih =>
    rw [List.range_succ_eq_map, List.map_cons, List.map_map]
    show Value.int .i64 0 :: .bool false :: .int .i64 0 :: cellsOf _ = _
    rw [List.replicate_succ, List.flatten_cons, ← ih]
    rfl
theorem make_places (n : Nat) (hn : n ≤ 65536) (W : World) : (Instr.makeSlice 105 (.int .i64 (n : Int)) (.int .i64 (n : Int))).run Try.prog W = .ok (.slice (some ⟨W.heap.size, 0, none⟩) n n) (W.alloc (.cells (rowOf (newL n 0)) 109)) := by
  obtain ⟨i0, hi, hz0, hz1, hz2⟩ := info_parts (show (Try.prog.info? 109).map (fun i => (i.zero, i.size, i.bytes)) = some (some (.agg #[Value.int .i64 0, .bool false, .int .i64 0]), 3, 24) by kernel_rfl)
  have hr := run_make (P := Try.prog) W 105 109 i0 (.agg #[Value.int .i64 0, .bool false, .int .i64 0]) Try.underlying105 hi hz0 .i64 .i64 n n (by omega) (by omega) (by rw [hz2]; omega) (by omega)
  simp only [Int.toNat_natCast] at hr
  rw [hr, hz1]
  have e : madeCells (Value.agg #[Value.int .i64 0, .bool false, .int .i64 0]).cells (n * 3) = rowOf (newL n 0) := by
    apply Array.toList_inj.1
    unfold rowOf
    rw [List.toList_toArray, cellsOf_new]
    exact made_rep [Value.int .i64 0, .bool false, .int .i64 0] 3 rfl (by omega) n
  rw [e]
theorem new_bad (n : Int) (w : World) (h : n < 1 ∨ 4096 < n) :
    Calls Try.prog 20 #[.int .i64 n] w fun e w' => e = .returned (.tuple #[.pointer none, .int .i64 1]) ∧ w' = w := by
  by_cases h1 : n < 1
  · go_enter Try.func20, Try.ntmps20
    go_wp2
    go_ret2
    exact ⟨rfl, rfl⟩
  · have h1' : 1 ≤ n := by omega
    have h2 : 4096 < n := by omega
    go_enter Try.func20, Try.ntmps20
    go_wp2
    go_ret2
    exact ⟨rfl, rfl⟩
set_option maxHeartbeats 800000 in
theorem new_ok (n : Nat) (w : World) (h1 : 1 ≤ n) (h2 : n ≤ 4096) :
    Calls Try.prog 20 #[.int .i64 n] w fun e w' => e = .returned (.tuple #[.pointer (some ⟨w.heap.size + 1, 0, none⟩), .int .i64 0]) ∧ SAt w' (w.heap.size + 1) w.heap.size 0 n (newF n) ∧ Below w.heap.size w w' := by
  have hmk := make_places n (by omega)
  have hd1 : decide (n < 1) = false := by simp; omega
  have hd2 : decide (4096 < n) = false := by simp; omega
  go_enter Try.func20, Try.ntmps20
  go_wp2
  clear hmk
  go_loopw [22] (fun c wr => ∃ k : Nat, k ≤ n ∧ c = .int .i64 k ∧ SAt wr (w.heap.size + 1) w.heap.size 0 n (newL n k) ∧ Below w.heap.size w wr)
    (fun c _ => n - (intOf c).toNat)
  case atStart => exact ⟨0, by omega, rfl, ⟨by rw [heap_alloc2_new, newL_length], by rw [heap_alloc2_old]⟩, ((Below.refl _ _).alloc (Nat.le_refl _) _).alloc (by simp) _⟩
  case round =>
    obtain ⟨k, hk, rfl, hS, hB⟩ := hrel
    by_cases hlt : k < n
    · have hp := newL_at n k k hlt
      have c0 := hS.c0
      rw [newL_length] at c0
      obtain ⟨_, _, q2⟩ := hS.at_ hp
      have f2 := hS.fr (k * 3 + 2)
      have h3 := hS.setNext k hp ((k : Int) + 1)
      rw [newL_step n k hlt] at h3
      have H3 := Lib.hid h3
      clear hS hp h3
      go_wp2
      go_roundw
      case rel => exact ⟨k + 1, by omega, by go_num, H3.out, hB.setCell (by simp) _⟩
      case measure => simp [intOf]; omega
    · obtain rfl : k = n := by omega
      have hp := newL_at k k (k - 1) (by omega)
      have c0 := hS.c0
      rw [newL_length] at c0
      obtain ⟨_, _, q2⟩ := hS.at_ hp
      have f2 := hS.fr ((k - 1) * 3 + 2)
      have h3 := hS.setNext (k - 1) hp (-1)
      rw [newL_last k (by omega)] at h3
      have H3 := Lib.hid h3
      have hk1 : ((k : Int) - 1).toNat = k - 1 := by omega
      have hk2 : 0 ≤ (k : Int) - 1 := by omega
      clear hS hp h3
      go_wp2
      go_ret2
      exact ⟨rfl, H3.out, hB.setCell (by simp) _⟩

/-- A slab in memory, told by what its places have and which are free. -/
def Slab (w : World) (pb b : Nat) (A : List (Option Int)) (fl : List Nat) : Prop := ∃ first free l, SAt w pb b first free l ∧ SInv l first free fl ∧ absP l = A ∧ l.length ≤ 4096
section
variable {w : World} {pb b : Nat} {A : List (Option Int)} {fl : List Nat}
theorem Slab.mem (h : Slab w pb b A fl) (i : Nat) : i ∈ fl ↔ A[i]? = some none := by
  obtain ⟨first, free, l, hS, hI, rfl, hl⟩ := h
  exact hI.mem_iff i
theorem Slab.nodup (h : Slab w pb b A fl) : fl.Nodup := by
  obtain ⟨first, free, l, hS, hI, rfl, hl⟩ := h
  exact hI.nodup
theorem Slab.drewN (h : Slab w pb b A fl) (n : Nat) : Slab (w.drewN n) pb b A fl := by
  obtain ⟨first, free, l, hS, hI, hA, hl⟩ := h
  exact ⟨first, free, l, hS.drewN n, hI, hA, hl⟩
theorem Slab.below (h : Slab w pb b A fl) {w' : World} (p : Below w.heap.size w w') : Slab w' pb b A fl := by
  obtain ⟨first, free, l, hS, hI, hA, hl⟩ := h
  exact ⟨first, free, l, hS.below p, hI, hA, hl⟩
theorem Slab.two (h : Slab w pb b A fl) {w' : World} {g k : Nat} (p : Two g k w w') (h1 : pb ≠ g) (h2 : pb ≠ k) (h3 : b ≠ g) (h4 : b ≠ k) : Slab w' pb b A fl := by
  obtain ⟨first, free, l, hS, hI, hA, hl⟩ := h
  exact ⟨first, free, l, hS.two p h1 h2 h3 h4, hI, hA, hl⟩
theorem Slab.lt (h : Slab w pb b A fl) : pb < w.heap.size ∧ b < w.heap.size := by
  obtain ⟨first, free, l, hS, _⟩ := h
  exact ⟨(Array.getElem?_eq_some_iff.1 hS.ptr).1, (Array.getElem?_eq_some_iff.1 hS.row).1⟩
theorem s_new (n : Nat) (w : World) (h1 : 1 ≤ n) (h2 : n ≤ 4096) :
    Calls Try.prog 20 #[.int .i64 n] w fun e w' => e = .returned (.tuple #[.pointer (some ⟨w.heap.size + 1, 0, none⟩), .int .i64 0]) ∧ Slab w' (w.heap.size + 1) w.heap.size (List.replicate n none) (List.range' 0 n) ∧ Below w.heap.size w w' := by
  refine (new_ok n w h1 h2).mono ?_
  rintro e w' ⟨rfl, hS, hB⟩
  refine ⟨rfl, ⟨0, n, newF n, hS, SInv.new _ n (by omega), ?_, by rw [newF_length]; omega⟩, hB⟩
  apply List.ext_getElem?
  intro j
  by_cases hj : j < n
  · simp [absP, newF, hj]
  · rw [List.getElem?_eq_none (by rw [absP_length, newF_length]; omega), List.getElem?_eq_none (by simp; omega)]
theorem s_take_no (x : Int) (h : Slab w pb b A []) :
    Calls Try.prog 21 #[.pointer (some ⟨pb, 0, none⟩), .int .i64 x] w fun e w' => e = .returned (.tuple #[.int .i64 0, .bool false]) ∧ w' = w := by
  obtain ⟨first, free, l, hS, hI, rfl, hl⟩ := h
  exact take_no pb b first free x l w hS hI.first_neg
theorem s_take_yes (i : Nat) (r : List Nat) (x : Int) (h : Slab w pb b A (i :: r)) :
    Calls Try.prog 21 #[.pointer (some ⟨pb, 0, none⟩), .int .i64 x] w fun e w' => e = .returned (.tuple #[.int .i64 i, .bool true]) ∧ Slab w' pb b (A.set i (some x)) r ∧ Two pb b w w' := by
  obtain ⟨first, free, l, hS, hI, rfl, hl⟩ := h
  obtain ⟨rfl, ⟨y, tk, nx⟩, hp, _⟩ := hI.head
  have hf := hI.free
  have hfl := hI.free_le
  refine (take_yes pb b i free nx x y tk l w hS (by omega) hp (by omega) (by omega)).mono ?_
  rintro e w' ⟨rfl, h1, h2⟩
  exact ⟨rfl, ⟨nx, free - 1, _, h1, hI.take hp x, by rw [absP_set]; rfl, by rw [List.length_set]; exact hl⟩, h2⟩
theorem s_give_no (i : Int) (h : Slab w pb b A fl) (hg : getA A i = none) :
    Calls Try.prog 22 #[.pointer (some ⟨pb, 0, none⟩), .int .i64 i] w fun e w' => e = .returned (.tuple #[.int .i64 0, .bool false]) ∧ w' = w := by
  obtain ⟨first, free, l, hS, hI, rfl, hl⟩ := h
  exact give_no pb b first free i l w hS (by omega) (by rw [getA_hasP, hg]; rfl)
theorem s_give_yes (i : Int) (x : Int) (h : Slab w pb b A fl) (hg : getA A i = some x) :
    Calls Try.prog 22 #[.pointer (some ⟨pb, 0, none⟩), .int .i64 i] w fun e w' => e = .returned (.tuple #[.int .i64 x, .bool true]) ∧ Slab w' pb b (A.set i.toNat none) (i.toNat :: fl) ∧ Two pb b w w' := by
  obtain ⟨first, free, l, hS, hI, rfl, hl⟩ := h
  obtain ⟨k, nx, rfl, hp⟩ := getA_some hg
  have hf := hI.free
  have hfl := hI.free_le
  refine (give_yes pb b k first free nx x l w hS (by omega) hp (by omega) (by omega)).mono ?_
  rintro e w' ⟨rfl, h1, h2⟩
  exact ⟨rfl, ⟨k, free + 1, _, h1, hI.give hp rfl _, by rw [absP_set]; rfl, by rw [List.length_set]; exact hl⟩, h2⟩
theorem s_get_no (i : Int) (h : Slab w pb b A fl) (hg : getA A i = none) :
    Calls Try.prog 23 #[.pointer (some ⟨pb, 0, none⟩), .int .i64 i] w fun e w' => e = .returned (.tuple #[.int .i64 0, .bool false]) ∧ w' = w := by
  obtain ⟨first, free, l, hS, hI, rfl, hl⟩ := h
  exact get_no pb b first free i l w hS (by omega) (by rw [getA_hasP, hg]; rfl)
theorem s_get_yes (i : Int) (x : Int) (h : Slab w pb b A fl) (hg : getA A i = some x) :
    Calls Try.prog 23 #[.pointer (some ⟨pb, 0, none⟩), .int .i64 i] w fun e w' => e = .returned (.tuple #[.int .i64 x, .bool true]) ∧ w' = w := by
  obtain ⟨first, free, l, hS, hI, rfl, hl⟩ := h
  obtain ⟨k, nx, rfl, hp⟩ := getA_some hg
  exact get_yes pb b k first free l ⟨x, true, nx⟩ w hS (by omega) hp rfl
theorem s_free (h : Slab w pb b A fl) :
    Calls Try.prog 24 #[.pointer (some ⟨pb, 0, none⟩)] w fun e w' => e = .returned (.int .i64 fl.length) ∧ w' = w := by
  obtain ⟨first, free, l, hS, hI, rfl, hl⟩ := h
  have := free_any pb b first free l w hS
  rw [hI.free] at this
  exact this
theorem Slab.fl_le (h : Slab w pb b A fl) : fl.length ≤ A.length ∧ A.length ≤ 4096 := by
  obtain ⟨first, free, l, hS, hI, rfl, hl⟩ := h
  rw [absP_length]
  exact ⟨hI.free_le, hl⟩
end
end Go.Proofs.Ytgcfiiidhihkaaa.C.SI
