/- The walks of chain.Chains over chains that lie in memory: what only reads. -/
import Derived.Test.YtgcfiiidhihkaaaBase
import Derived.Test.YtgcfiiidhihkaaaChainP
import Derived.Test.YtgcfiiidhihkaaaProg
import Derived.KernelRfl
import Derived.StillTailTactics
import Derived.Deep.QuietTactic
import Derived.BigQuiet
import Derived.Outline
import Derived.Laws.MakeOwn
namespace Go.Proofs.Ytgcfiiidhihkaaa.C.CH
open Go.RowKit
set_option linter.unusedVariables false
def cLn : List Ln → List Value
  | [] => []
  | p :: r => .int .i64 p.first :: .int .i64 p.last :: .int .i64 p.n :: cLn r
def cLk : List Lk → List Value
  | [] => []
  | p :: r => .int .i64 p.line :: .int .i64 p.next :: cLk r
theorem cLn_at : ∀ (l : List Ln) (i : Nat) (p : Ln), l[i]? = some p → (cLn l)[i * 3]? = some (.int .i64 p.first) ∧ (cLn l)[i * 3 + 1]? = some (.int .i64 p.last) ∧ (cLn l)[i * 3 + 2]? = some (.int .i64 p.n)
  | p :: r, 0, q, h => by
    simp at h
    subst h
    exact ⟨rfl, rfl, rfl⟩
  | p :: r, i + 1, q, h => by
    simp at h
    obtain ⟨h1, h2, h3⟩ := cLn_at r i q h
    have e : (i + 1) * 3 = i * 3 + 3 := by omega
    rw [e]
    exact ⟨h1, h2, h3⟩
theorem cLk_at : ∀ (l : List Lk) (i : Nat) (p : Lk), l[i]? = some p → (cLk l)[i * 2]? = some (.int .i64 p.line) ∧ (cLk l)[i * 2 + 1]? = some (.int .i64 p.next)
  | p :: r, 0, q, h => by
    simp at h
    subst h
    exact ⟨rfl, rfl⟩
  | p :: r, i + 1, q, h => by
    simp at h
    obtain ⟨h1, h2⟩ := cLk_at r i q h
    have e : (i + 1) * 2 = i * 2 + 2 := by omega
    rw [e]
    exact ⟨h1, h2⟩
theorem cLn_set0 : ∀ (l : List Ln) (i : Nat) (p : Ln) (v : Int), l[i]? = some p → cLn (l.set i { p with first := v }) = (cLn l).set (i * 3) (.int .i64 v)
  | p :: r, 0, q, v, h => by
    simp at h
    subst h
    rfl
  | p :: r, i + 1, q, v, h => by
    simp at h
    have e : (i + 1) * 3 = i * 3 + 3 := by omega
    rw [e]
    show cLn (p :: r.set i _) = _
    simp only [cLn, List.set_cons_succ]
    rw [cLn_set0 r i q v h]
theorem cLn_set1 : ∀ (l : List Ln) (i : Nat) (p : Ln) (v : Int), l[i]? = some p → cLn (l.set i { p with last := v }) = (cLn l).set (i * 3 + 1) (.int .i64 v)
  | p :: r, 0, q, v, h => by
    simp at h
    subst h
    rfl
  | p :: r, i + 1, q, v, h => by
    simp at h
    have e : (i + 1) * 3 + 1 = i * 3 + 1 + 3 := by omega
    rw [e]
    show cLn (p :: r.set i _) = _
    simp only [cLn, List.set_cons_succ]
    rw [cLn_set1 r i q v h]
theorem cLn_set2 : ∀ (l : List Ln) (i : Nat) (p : Ln) (v : Int), l[i]? = some p → cLn (l.set i { p with n := v }) = (cLn l).set (i * 3 + 2) (.int .i64 v)
  | p :: r, 0, q, v, h => by
    simp at h
    subst h
    rfl
  | p :: r, i + 1, q, v, h => by
    simp at h
    have e : (i + 1) * 3 + 2 = i * 3 + 2 + 3 := by omega
    rw [e]
    show cLn (p :: r.set i _) = _
    simp only [cLn, List.set_cons_succ]
    rw [cLn_set2 r i q v h]
theorem cLk_set0 : ∀ (l : List Lk) (i : Nat) (p : Lk) (v : Int), l[i]? = some p → cLk (l.set i { p with line := v }) = (cLk l).set (i * 2) (.int .i64 v)
  | p :: r, 0, q, v, h => by
    simp at h
    subst h
    rfl
  | p :: r, i + 1, q, v, h => by
    simp at h
    have e : (i + 1) * 2 = i * 2 + 2 := by omega
    rw [e]
    show cLk (p :: r.set i _) = _
    simp only [cLk, List.set_cons_succ]
    rw [cLk_set0 r i q v h]
theorem cLk_set1 : ∀ (l : List Lk) (i : Nat) (p : Lk) (v : Int), l[i]? = some p → cLk (l.set i { p with next := v }) = (cLk l).set (i * 2 + 1) (.int .i64 v)
  | p :: r, 0, q, v, h => by
    simp at h
    subst h
    rfl
  | p :: r, i + 1, q, v, h => by
    simp at h
    have e : (i + 1) * 2 + 1 = i * 2 + 1 + 2 := by omega
    rw [e]
    show cLk (p :: r.set i _) = _
    simp only [cLk, List.set_cons_succ]
    rw [cLk_set1 r i q v h]

/-- Chains in memory: the struct in block pb, the lines in b1, the places in b2. -/
structure CAt (w : World) (pb b1 b2 : Nat) (ln : List Ln) (lk : List Lk) : Prop where
  ptr : w.heap[pb]? = some (.cells #[.slice (some ⟨b1, 0, none⟩) ln.length ln.length, .slice (some ⟨b2, 0, none⟩) lk.length lk.length] 113 (0, 0))
  r1 : w.heap[b1]? = some (.cells (cLn ln).toArray 115 (0, 0))
  r2 : w.heap[b2]? = some (.cells (cLk lk).toArray 117 (0, 0))
section
variable {w : World} {pb b1 b2 : Nat} {ln : List Ln} {lk : List Lk}
theorem ty_ne {w : World} {a b : Nat} {x y : Array Value} {s t : TypeId} {f g : Nat × Nat} (h1 : w.heap[a]? = some (.cells x s f)) (h2 : w.heap[b]? = some (.cells y t g)) (h : s ≠ t) : a ≠ b := by
  rintro rfl
  have := h1.symm.trans h2
  injection this with this
  injection this with _ h3
  exact h h3
theorem CAt.ne1 (h : CAt w pb b1 b2 ln lk) : pb ≠ b1 := ty_ne h.ptr h.r1 (by decide)
theorem CAt.ne2 (h : CAt w pb b1 b2 ln lk) : pb ≠ b2 := ty_ne h.ptr h.r2 (by decide)
theorem CAt.ne3 (h : CAt w pb b1 b2 ln lk) : b1 ≠ b2 := ty_ne h.r1 h.r2 (by decide)
theorem CAt.c0 (h : CAt w pb b1 b2 ln lk) : w.cell? ⟨pb, 0, none⟩ = some (.slice (some ⟨b1, 0, none⟩) ln.length ln.length) := by rw [cell_of_row _ _ _ _ _ _ h.ptr]; rfl
theorem CAt.c1 (h : CAt w pb b1 b2 ln lk) : w.cell? ⟨pb, 1, none⟩ = some (.slice (some ⟨b2, 0, none⟩) lk.length lk.length) := by rw [cell_of_row _ _ _ _ _ _ h.ptr]; rfl
theorem CAt.ln_ (h : CAt w pb b1 b2 ln lk) {i : Nat} {p : Ln} (hp : ln[i]? = some p) :
    w.cell? ⟨b1, i * 3, none⟩ = some (.int .i64 p.first) ∧ w.cell? ⟨b1, i * 3 + 1, none⟩ = some (.int .i64 p.last) ∧ w.cell? ⟨b1, i * 3 + 2, none⟩ = some (.int .i64 p.n) := by
  obtain ⟨h1, h2, h3⟩ := cLn_at ln i p hp
  refine ⟨?_, ?_, ?_⟩ <;> rw [cell_of_row _ _ _ _ _ _ h.r1] <;> simpa
theorem CAt.lk_ (h : CAt w pb b1 b2 ln lk) {i : Nat} {p : Lk} (hp : lk[i]? = some p) :
    w.cell? ⟨b2, i * 2, none⟩ = some (.int .i64 p.line) ∧ w.cell? ⟨b2, i * 2 + 1, none⟩ = some (.int .i64 p.next) := by
  obtain ⟨h1, h2⟩ := cLk_at lk i p hp
  refine ⟨?_, ?_⟩ <;> rw [cell_of_row _ _ _ _ _ _ h.r2] <;> simpa
theorem CAt.f1 (h : CAt w pb b1 b2 ln lk) (j : Nat) : w.frozen? ⟨b1, j, none⟩ = false := frozen_of_row _ _ _ _ _ h.r1
theorem CAt.f2 (h : CAt w pb b1 b2 ln lk) (j : Nat) : w.frozen? ⟨b2, j, none⟩ = false := frozen_of_row _ _ _ _ _ h.r2
theorem CAt.drewN (h : CAt w pb b1 b2 ln lk) (n : Nat) : CAt (w.drewN n) pb b1 b2 ln lk := ⟨h.ptr, h.r1, h.r2⟩
theorem CAt.set1 (h : CAt w pb b1 b2 ln lk) {i j : Nat} {p q : Ln} {v : Int} (hp : ln[i]? = some p) (hc : cLn (ln.set i q) = (cLn ln).set j (.int .i64 v)) : CAt (w.setCell ⟨b1, j, none⟩ (.int .i64 v)) pb b1 b2 (ln.set i q) lk := by
  refine ⟨?_, ?_, ?_⟩
  · rw [heap_setCell_other _ _ _ _ (by simpa using h.ne1), List.length_set]; exact h.ptr
  · rw [heap_setCell_same _ b1 j _ _ _ h.r1, hc]; simp
  · rw [heap_setCell_other _ _ _ _ (by simpa using h.ne3.symm)]; exact h.r2
theorem CAt.set2 (h : CAt w pb b1 b2 ln lk) {i j : Nat} {p q : Lk} {v : Int} (hp : lk[i]? = some p) (hc : cLk (lk.set i q) = (cLk lk).set j (.int .i64 v)) : CAt (w.setCell ⟨b2, j, none⟩ (.int .i64 v)) pb b1 b2 ln (lk.set i q) := by
  refine ⟨?_, ?_, ?_⟩
  · rw [heap_setCell_other _ _ _ _ (by simpa using h.ne2), List.length_set]; exact h.ptr
  · rw [heap_setCell_other _ _ _ _ (by simpa using h.ne3)]; exact h.r1
  · rw [heap_setCell_same _ b2 j _ _ _ h.r2, hc]; simp
theorem CAt.setFirst (h : CAt w pb b1 b2 ln lk) {i : Nat} {p : Ln} (hp : ln[i]? = some p) (v : Int) : CAt (w.setCell ⟨b1, i * 3, none⟩ (.int .i64 v)) pb b1 b2 (ln.set i { p with first := v }) lk := h.set1 hp (cLn_set0 ln i p v hp)
theorem CAt.setLast (h : CAt w pb b1 b2 ln lk) {i : Nat} {p : Ln} (hp : ln[i]? = some p) (v : Int) : CAt (w.setCell ⟨b1, i * 3 + 1, none⟩ (.int .i64 v)) pb b1 b2 (ln.set i { p with last := v }) lk := h.set1 hp (cLn_set1 ln i p v hp)
theorem CAt.setN (h : CAt w pb b1 b2 ln lk) {i : Nat} {p : Ln} (hp : ln[i]? = some p) (v : Int) : CAt (w.setCell ⟨b1, i * 3 + 2, none⟩ (.int .i64 v)) pb b1 b2 (ln.set i { p with n := v }) lk := h.set1 hp (cLn_set2 ln i p v hp)
theorem CAt.setLine (h : CAt w pb b1 b2 ln lk) {i : Nat} {p : Lk} (hp : lk[i]? = some p) (v : Int) : CAt (w.setCell ⟨b2, i * 2, none⟩ (.int .i64 v)) pb b1 b2 ln (lk.set i { p with line := v }) := h.set2 hp (cLk_set0 lk i p v hp)
theorem CAt.setNext (h : CAt w pb b1 b2 ln lk) {i : Nat} {p : Lk} (hp : lk[i]? = some p) (v : Int) : CAt (w.setCell ⟨b2, i * 2 + 1, none⟩ (.int .i64 v)) pb b1 b2 ln (lk.set i { p with next := v }) := h.set2 hp (cLk_set1 lk i p v hp)
theorem CAt.two (h : CAt w pb b1 b2 ln lk) {w' : World} {g k : Nat} (p : Two g k w w') (h1 : pb ≠ g) (h2 : pb ≠ k) (h3 : b1 ≠ g) (h4 : b1 ≠ k) (h5 : b2 ≠ g) (h6 : b2 ≠ k) : CAt w' pb b1 b2 ln lk :=
  ⟨(p.block pb (Array.getElem?_eq_some_iff.1 h.ptr).1 h1 h2).trans h.ptr, (p.block b1 (Array.getElem?_eq_some_iff.1 h.r1).1 h3 h4).trans h.r1, (p.block b2 (Array.getElem?_eq_some_iff.1 h.r2).1 h5 h6).trans h.r2⟩
theorem CAt.below (h : CAt w pb b1 b2 ln lk) {w' : World} (p : Below w.heap.size w w') : CAt w' pb b1 b2 ln lk :=
  ⟨(p.block pb (Array.getElem?_eq_some_iff.1 h.ptr).1).trans h.ptr, (p.block b1 (Array.getElem?_eq_some_iff.1 h.r1).1).trans h.r1, (p.block b2 (Array.getElem?_eq_some_iff.1 h.r2).1).trans h.r2⟩
end
theorem has_nil (i : Int) (w : World) : Calls Try.prog 58 #[.pointer none, .int .i64 i] w fun e w' => e = .returned (.bool false) ∧ w' = w := by
  go_enter Try.func58, Try.ntmps58
  go_wp2
  go_ret
  exact ⟨rfl, rfl⟩
theorem has_any (pb b1 b2 : Nat) (i : Int) (ln : List Ln) (lk : List Lk) (w : World) (h : CAt w pb b1 b2 ln lk) :
    Calls Try.prog 58 #[.pointer (some ⟨pb, 0, none⟩), .int .i64 i] w fun e w' => e = .returned (.bool (decide (0 ≤ i ∧ i < ln.length))) ∧ w' = w := by
  have c0 := h.c0
  clear h
  generalize ln.length = n at *
  by_cases h0 : 0 ≤ i
  · by_cases h1 : i < n
    · rw [decide_eq_true ⟨h0, h1⟩]
      have d1 : decide (i < (n : Int)) = true := decide_eq_true h1
      go_enter Try.func58, Try.ntmps58
      go_wp2
      go_ret
      exact ⟨rfl, rfl⟩
    · rw [decide_eq_false (fun h => h1 h.2)]
      have d1 : decide (i < (n : Int)) = false := decide_eq_false h1
      go_enter Try.func58, Try.ntmps58
      go_wp2
      go_ret
      exact ⟨rfl, rfl⟩
  · rw [decide_eq_false (fun h => h0 h.1)]
    go_enter Try.func58, Try.ntmps58
    go_wp2
    go_ret
    exact ⟨rfl, rfl⟩
theorem len_nil (i : Int) (w : World) : Calls Try.prog 29 #[.pointer none, .int .i64 i] w fun e w' => e = .returned (.int .i64 0) ∧ w' = w := by
  have C := Lib.hid (has_nil i w)
  go_enter Try.func29, Try.ntmps29
  go_wp2_with fail
  refine C.out.mono ?_
  rintro e w1 ⟨rfl, rfl⟩
  go_wp2
  go_ret
  exact ⟨rfl, rfl⟩
theorem len_no (pb b1 b2 : Nat) (i : Int) (ln : List Ln) (lk : List Lk) (w : World) (h : CAt w pb b1 b2 ln lk) (hi : ¬ (0 ≤ i ∧ i < ln.length)) :
    Calls Try.prog 29 #[.pointer (some ⟨pb, 0, none⟩), .int .i64 i] w fun e w' => e = .returned (.int .i64 0) ∧ w' = w := by
  have C := Lib.hid (has_any pb b1 b2 i ln lk w h)
  rw [decide_eq_false hi] at C
  clear h hi
  go_enter Try.func29, Try.ntmps29
  go_wp2_with fail
  refine C.out.mono ?_
  rintro e w1 ⟨rfl, rfl⟩
  go_wp2
  go_ret
  exact ⟨rfl, rfl⟩
theorem len_yes (pb b1 b2 l : Nat) (x : Ln) (ln : List Ln) (lk : List Lk) (w : World) (h : CAt w pb b1 b2 ln lk) (hx : ln[l]? = some x) (hl : ln.length ≤ 65536) :
    Calls Try.prog 29 #[.pointer (some ⟨pb, 0, none⟩), .int .i64 (l : Nat)] w fun e w' => e = .returned (.int .i64 x.n) ∧ w' = w := by
  have hlt := lt_of_some hx
  have C := Lib.hid (has_any pb b1 b2 (l : Nat) ln lk w h)
  rw [decide_eq_true (show (0 : Int) ≤ (l : Nat) ∧ ((l : Nat) : Int) < (ln.length : Nat) by omega)] at C
  have c0 := h.c0
  obtain ⟨q0, q1, q2⟩ := h.ln_ hx
  generalize x.n = xn at *
  clear h hx
  go_enter Try.func29, Try.ntmps29
  go_wp2_with fail
  refine C.out.mono ?_
  rintro e w1 ⟨rfl, rfl⟩
  go_wp2
  go_ret
  exact ⟨rfl, rfl⟩
theorem line_nil (p : Int) (w : World) : Calls Try.prog 30 #[.pointer none, .int .i64 p] w fun e w' => e = .returned (.tuple #[.int .i64 0, .bool false]) ∧ w' = w := by
  go_enter Try.func30, Try.ntmps30
  go_wp2
  go_ret2
  exact ⟨rfl, rfl⟩
theorem line_no (pb b1 b2 : Nat) (p : Int) (ln : List Ln) (lk : List Lk) (w : World) (h : CAt w pb b1 b2 ln lk) (hp : p < 0 ∨ (lk.length : Int) ≤ p) :
    Calls Try.prog 30 #[.pointer (some ⟨pb, 0, none⟩), .int .i64 p] w fun e w' => e = .returned (.tuple #[.int .i64 0, .bool false]) ∧ w' = w := by
  have c1 := h.c1
  clear h
  generalize lk.length = n at *
  by_cases h0 : p < 0
  · go_enter Try.func30, Try.ntmps30
    go_wp2
    go_ret2
    exact ⟨rfl, rfl⟩
  · have h0' : 0 ≤ p := by omega
    have h1 : (n : Int) ≤ p := by omega
    have d1 : decide ((n : Int) ≤ p) = true := decide_eq_true h1
    have d2 : decide (p < (n : Int)) = false := by simp; omega
    go_enter Try.func30, Try.ntmps30
    go_wp2
    go_ret2
    exact ⟨rfl, rfl⟩
theorem line_in (pb b1 b2 p : Nat) (x : Lk) (ln : List Ln) (lk : List Lk) (w : World) (h : CAt w pb b1 b2 ln lk) (hx : lk[p]? = some x) (hl : lk.length ≤ 65536) :
    Calls Try.prog 30 #[.pointer (some ⟨pb, 0, none⟩), .int .i64 (p : Nat)] w fun e w' => e = .returned (if x.line = -1 then .tuple #[.int .i64 0, .bool false] else .tuple #[.int .i64 x.line, .bool true]) ∧ w' = w := by
  have hlt := lt_of_some hx
  have c1 := h.c1
  obtain ⟨q0, q1⟩ := h.lk_ hx
  generalize x.line = xl at *
  have d2 : decide ((lk.length : Int) ≤ (p : Int)) = false := by simp; omega
  clear h hx
  by_cases e : xl = -1
  · subst e
    rw [if_pos rfl]
    go_enter Try.func30, Try.ntmps30
    go_wp2
    go_ret2
    exact ⟨rfl, rfl⟩
  · rw [if_neg e]
    have e1 : (xl == -1) = false := beq_false_of_ne e
    go_enter Try.func30, Try.ntmps30
    go_wp2
    go_ret2
    exact ⟨rfl, rfl⟩
theorem find_nil (i k : Int) (w : World) : Calls Try.prog 59 #[.pointer none, .int .i64 i, .int .i64 k] w fun e w' => e = .returned (.tuple #[.int .i64 0, .int .i64 (-1), .bool false]) ∧ w' = w := by
  have C := Lib.hid (has_nil i w)
  go_enter Try.func59, Try.ntmps59
  go_wp2_with fail
  refine C.out.mono ?_
  rintro e w1 ⟨rfl, rfl⟩
  go_wp2
  go_ret3
  exact ⟨rfl, rfl⟩
end Go.Proofs.Ytgcfiiidhihkaaa.C.CH
