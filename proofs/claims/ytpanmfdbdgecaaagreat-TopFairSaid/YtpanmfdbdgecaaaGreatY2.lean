/- Chains, plain: lines of places. No program in sight. · The walks of chain.Chains over chains that lie in memory: what only reads. · The walks of chain.Chains: find, At, Push, Cut, New. · The walks of chain.Chains' writes: Push, Cut (printed by chain.py). -/
import Derived.Test.YtpanmfdbdgecaaaGreatY1
import Derived.Test.YtpanmfdbdgecaaaGreatProg
import Derived.KernelRfl
import Derived.StillTailTactics
import Derived.Deep.QuietTactic
import Derived.BigQuiet
import Derived.Outline
import Derived.Laws.MakeOwn
namespace Go.Proofs.YtpanmfdbdgecaaaGreat.C
/-- A line's first place, its last one, how many. -/
structure Ln where
  first : Int
  last : Int
  n : Int
/-- A place's line, and the place behind it. -/
structure Lk where
  line : Int
  next : Int
/-- The k-th of a line, or -1. -/
def atOr (q : List Nat) (k : Nat) : Int := match q[k]? with | some p => (p : Int) | none => -1
theorem atOr_some {q : List Nat} {k p : Nat} (h : q[k]? = some p) : atOr q k = p := by simp [atOr, h]
theorem atOr_none {q : List Nat} {k : Nat} (h : q.length ≤ k) : atOr q k = -1 := by simp [atOr, List.getElem?_eq_none h]
theorem atOr_lt {q : List Nat} {k : Nat} (h : k < q.length) : ∃ p : Nat, q[k]? = some p ∧ atOr q k = p := ⟨q[k], List.getElem?_eq_getElem h, by simp [atOr, h]⟩
theorem atOr_app_lt {q : List Nat} {p k : Nat} (h : k < q.length) : atOr (q ++ [p]) k = atOr q k := by simp [atOr, List.getElem?_append_left h]
theorem atOr_app {q : List Nat} {p : Nat} : atOr (q ++ [p]) q.length = p := by simp [atOr]
theorem atOr_erase (q : List Nat) (k i : Nat) : atOr (q.eraseIdx k) i = if i < k then atOr q i else atOr q (i + 1) := by
  unfold atOr
  rw [List.getElem?_eraseIdx]
  by_cases h : i < k
  · rw [if_pos h, if_pos h]
  · rw [if_neg h, if_neg h]
/-- What lies in the two rows is the lines Q. -/
structure CInv (ln : List Ln) (lk : List Lk) (Q : List (List Nat)) : Prop where
  len : ln.length = Q.length
  line : ∀ (l : Nat) (q : List Nat), Q[l]? = some q → ln[l]? = some ⟨atOr q 0, atOr q (q.length - 1), q.length⟩
  seg : ∀ (l : Nat) (q : List Nat) (k p : Nat), Q[l]? = some q → q[k]? = some p → lk[p]? = some ⟨l, atOr q (k + 1)⟩
  inj : ∀ (l : Nat) (q : List Nat) (i j p : Nat), Q[l]? = some q → q[i]? = some p → q[j]? = some p → i = j
  free : ∀ (p : Nat) (x : Lk), lk[p]? = some x → (∀ (l : Nat) (q : List Nat), Q[l]? = some q → p ∉ q) → x.line = -1
section
variable {ln : List Ln} {lk : List Lk} {Q : List (List Nat)}
theorem CInv.new (n m : Nat) : CInv (List.replicate n ⟨-1, -1, 0⟩) (List.replicate m ⟨-1, -1⟩) (List.replicate n []) := by
  have hq : ∀ (l : Nat) (q : List Nat), (List.replicate n ([] : List Nat))[l]? = some q → q = [] ∧ l < n := by
    intro l q h
    rw [List.getElem?_replicate] at h
    split at h
    · injection h with h; exact ⟨h.symm, by assumption⟩
    · cases h
  refine ⟨by simp, fun l q h => ?_, fun l q k p h hk => ?_, fun l q i j p h hi hj => ?_, fun p x h _ => ?_⟩
  · obtain ⟨rfl, hl⟩ := hq l q h
    simp [atOr, hl]
  · obtain ⟨rfl, hl⟩ := hq l q h
    simp at hk
  · obtain ⟨rfl, hl⟩ := hq l q h
    simp at hi
  · rw [List.getElem?_replicate] at h
    split at h
    · injection h with h; rw [← h]
    · cases h
theorem CInv.here (h : CInv ln lk Q) {l : Nat} {q : List Nat} {p : Nat} (hq : Q[l]? = some q) (hp : p ∈ q) : ∃ nx, lk[p]? = some ⟨l, nx⟩ := by
  obtain ⟨k, hk⟩ := List.getElem?_of_mem hp
  exact ⟨_, h.seg l q k p hq hk⟩
theorem CInv.not_mem (h : CInv ln lk Q) {p : Nat} {x : Lk} (hx : lk[p]? = some x) (hf : x.line = -1) {l : Nat} {q : List Nat} (hq : Q[l]? = some q) : p ∉ q := by
  intro hp
  obtain ⟨nx, hn⟩ := h.here hq hp
  rw [hx] at hn
  injection hn with hn
  subst hn
  have hf : ((l : Nat) : Int) = -1 := hf
  omega
theorem CInv.one (h : CInv ln lk Q) {l l' : Nat} {q q' : List Nat} {p : Nat} (hq : Q[l]? = some q) (hq' : Q[l']? = some q') (hp : p ∈ q) (hp' : p ∈ q') : l = l' := by
  obtain ⟨n1, h1⟩ := h.here hq hp
  obtain ⟨n2, h2⟩ := h.here hq' hp'
  rw [h1] at h2
  injection h2 with h2
  injection h2 with h2
  omega
theorem CInv.lt (h : CInv ln lk Q) {l : Nat} {q : List Nat} {p : Nat} (hq : Q[l]? = some q) (hp : p ∈ q) : p < lk.length := by
  obtain ⟨nx, hn⟩ := h.here hq hp
  exact lt_of_some hn
/-- The rows behind a push: lk' is lk but for the old last one's next and for p. -/
theorem CInv.push (h : CInv ln lk Q) {l : Nat} {q : List Nat} {p : Nat} {x : Lk} (hq : Q[l]? = some q) (hx : lk[p]? = some x) (hf : x.line = -1) {lk' : List Lk}
    (hp : lk'[p]? = some ⟨l, -1⟩)
    (hlast : ∀ (u : Nat), q[q.length - 1]? = some u → lk'[u]? = some ⟨l, p⟩)
    (hother : ∀ (u : Nat), u ≠ p → (q[q.length - 1]? ≠ some u) → lk'[u]? = lk[u]?) :
    CInv (ln.set l ⟨if q = [] then (p : Int) else atOr q 0, p, (q.length : Int) + 1⟩) lk' (Q.set l (q ++ [p])) := by
  have hlQ := lt_of_some hq
  have hnp : ∀ (l' : Nat) (q' : List Nat), Q[l']? = some q' → p ∉ q' := fun l' q' h' => h.not_mem hx hf h'
  refine ⟨by simp [h.len], fun l' q' h' => ?_, fun l' q' k u h' hk => ?_, fun l' q' i j u h' hi hj => ?_, fun u y hu hn => ?_⟩
  · rcases get_set h' with ⟨rfl, rfl⟩ | ⟨hne, h'⟩
    · rw [List.getElem?_set_self (by rw [h.len]; exact hlQ)]
      congr 2
      · cases q with
        | nil => simp [atOr]
        | cons a r => rw [if_neg (by simp)]; exact (atOr_app_lt (by simp)).symm
      · rw [List.length_append]
        simp [atOr]
      · simp
    · rw [List.getElem?_set_ne (fun e => hne e.symm)]
      exact h.line l' q' h'
  · rcases get_set h' with ⟨rfl, rfl⟩ | ⟨hne, h'⟩
    · have hkl := lt_of_some hk
      simp at hkl
      by_cases hkq : k = q.length
      · subst hkq
        simp at hk
        subst hk
        rw [hp, atOr_none (by simp)]
      · rw [List.getElem?_append_left (by omega)] at hk
        have hup : u ≠ p := fun e => hnp l' q hq (e ▸ List.mem_of_getElem? hk)
        by_cases hkl : k = q.length - 1
        · subst hkl
          rw [hlast u hk, show q.length - 1 + 1 = q.length by omega, atOr_app]
        · have : q[q.length - 1]? ≠ some u := fun e => by have := h.inj l' q k _ u hq hk e; omega
          rw [hother u hup this, h.seg l' q k u hq hk, atOr_app_lt (by omega)]
    · have hup : u ≠ p := fun e => hnp l' q' h' (e ▸ List.mem_of_getElem? hk)
      have : q[q.length - 1]? ≠ some u := fun e => hne (h.one h' hq (List.mem_of_getElem? hk) (List.mem_of_getElem? e))
      rw [hother u hup this]
      exact h.seg l' q' k u h' hk
  · rcases get_set h' with ⟨rfl, rfl⟩ | ⟨hne, h'⟩
    · have hil := lt_of_some hi
      have hjl := lt_of_some hj
      simp at hil hjl
      by_cases h1 : i < q.length
      · rw [List.getElem?_append_left h1] at hi
        by_cases h2 : j < q.length
        · rw [List.getElem?_append_left h2] at hj
          exact h.inj l' q i j u hq hi hj
        · obtain rfl : j = q.length := by omega
          simp at hj
          subst hj
          exact absurd (List.mem_of_getElem? hi) (hnp l' q hq)
      · obtain rfl : i = q.length := by omega
        simp at hi
        subst hi
        by_cases h2 : j < q.length
        · rw [List.getElem?_append_left h2] at hj
          exact absurd (List.mem_of_getElem? hj) (hnp l' q hq)
        · omega
    · exact h.inj l' q' i j u h' hi hj
  · have hup : u ≠ p := by
      rintro rfl
      exact hn l (q ++ [u]) (List.getElem?_set_self hlQ) (by simp)
    have : q[q.length - 1]? ≠ some u := fun e => hn l (q ++ [p]) (List.getElem?_set_self hlQ) (by simp [List.mem_of_getElem? e])
    rw [hother u hup this] at hu
    refine h.free u y hu fun l' q' h' hm => ?_
    by_cases e : l' = l
    · subst e
      rw [hq] at h'
      injection h' with h'
      subst h'
      exact hn l' (q ++ [p]) (List.getElem?_set_self hlQ) (by simp [hm])
    · exact hn l' q' (by rw [List.getElem?_set_ne (fun e' => e e'.symm)]; exact h') hm
/-- .. behind a cut. -/
theorem CInv.cut (h : CInv ln lk Q) {l : Nat} {q : List Nat} {k p : Nat} (hq : Q[l]? = some q) (hk : q[k]? = some p) {lk' : List Lk}
    (hp : lk'[p]? = some ⟨-1, -1⟩)
    (hahead : ∀ (u : Nat), 0 < k → q[k - 1]? = some u → lk'[u]? = some ⟨l, atOr q (k + 1)⟩)
    (hother : ∀ (u : Nat), u ≠ p → (0 < k → q[k - 1]? ≠ some u) → lk'[u]? = lk[u]?) :
    CInv (ln.set l ⟨atOr (q.eraseIdx k) 0, atOr (q.eraseIdx k) ((q.eraseIdx k).length - 1), (q.eraseIdx k).length⟩) lk' (Q.set l (q.eraseIdx k)) := by
  have hlQ := lt_of_some hq
  have hkl := lt_of_some hk
  have hel : (q.eraseIdx k).length = q.length - 1 := List.length_eraseIdx_of_lt hkl
  refine ⟨by simp [h.len], fun l' q' h' => ?_, fun l' q' i u h' hi => ?_, fun l' q' i j u h' hi hj => ?_, fun u y hu hn => ?_⟩
  · rcases get_set h' with ⟨rfl, rfl⟩ | ⟨hne, h'⟩
    · rw [List.getElem?_set_self (by rw [h.len]; exact hlQ)]
    · rw [List.getElem?_set_ne (fun e => hne e.symm)]
      exact h.line l' q' h'
  · rcases get_set h' with ⟨rfl, rfl⟩ | ⟨hne, h'⟩
    · have hil := lt_of_some hi
      rw [hel] at hil
      rw [List.getElem?_eraseIdx] at hi
      by_cases h1 : i < k
      · rw [if_pos h1] at hi
        have hup : u ≠ p := fun e => by subst e; have := h.inj l' q i k u hq hi hk; omega
        rw [atOr_erase]
        by_cases h2 : i = k - 1
        · subst h2
          rw [hahead u (by omega) hi, if_neg (by omega), show k - 1 + 1 = k by omega]
        · rw [hother u hup (fun _ e => by have := h.inj l' q i _ u hq hi e; omega), h.seg l' q i u hq hi, if_pos (by omega)]
      · rw [if_neg h1] at hi
        have hup : u ≠ p := fun e => by subst e; have := h.inj l' q _ k u hq hi hk; omega
        rw [hother u hup (fun _ e => by have := h.inj l' q _ _ u hq hi e; omega), h.seg l' q _ u hq hi, atOr_erase, if_neg (by omega)]
    · have hup : u ≠ p := fun e => by subst e; exact hne (h.one h' hq (List.mem_of_getElem? hi) (List.mem_of_getElem? hk))
      rw [hother u hup (fun _ e => hne (h.one h' hq (List.mem_of_getElem? hi) (List.mem_of_getElem? e)))]
      exact h.seg l' q' i u h' hi
  · rcases get_set h' with ⟨rfl, rfl⟩ | ⟨hne, h'⟩
    · rw [List.getElem?_eraseIdx] at hi hj
      split at hi <;> split at hj
      all_goals
        have := h.inj l' q _ _ u hq hi hj
        omega
    · exact h.inj l' q' i j u h' hi hj
  · by_cases hup : u = p
    · subst hup
      rw [hp] at hu
      injection hu with hu
      rw [← hu]
    · have h1 : 0 < k → q[k - 1]? ≠ some u := fun h0 e => hn l (q.eraseIdx k) (List.getElem?_set_self hlQ) (List.mem_of_getElem? (i := k - 1) (by rw [List.getElem?_eraseIdx, if_pos (by omega)]; exact e))
      rw [hother u hup h1] at hu
      refine h.free u y hu fun l' q' h' hm => ?_
      by_cases e : l' = l
      · subst e
        rw [hq] at h'
        injection h' with h'
        subst h'
        obtain ⟨i, hi⟩ := List.getElem?_of_mem hm
        have hik : i ≠ k := fun e => by subst e; rw [hk] at hi; injection hi with hi; exact hup hi.symm
        refine hn l' (q.eraseIdx k) (List.getElem?_set_self hlQ) ?_
        by_cases h2 : i < k
        · exact List.mem_of_getElem? (i := i) (by rw [List.getElem?_eraseIdx, if_pos h2]; exact hi)
        · exact List.mem_of_getElem? (i := i - 1) (by rw [List.getElem?_eraseIdx, if_neg (by omega), show i - 1 + 1 = i by omega]; exact hi)
      · exact hn l' q' (by rw [List.getElem?_set_ne (fun e' => e e'.symm)]; exact h') hm
end
end Go.Proofs.YtpanmfdbdgecaaaGreat.C

namespace Go.Proofs.YtpanmfdbdgecaaaGreat.C.CH
open Go.RowKit
set_option linter.unusedVariables false
def cLn : List Ln → List Value
  | [] => []
  | p :: r => .int .i64 p.first :: .int .i64 p.last :: .int .i64 p.n :: cLn r
def cLk : List Lk → List Value
  | [] => []
  | p :: r => .int .i64 p.line :: .int .i64 p.next :: cLk r
theorem cLn_at : ∀ (l : List Ln) (i : Nat) (p : Ln), l[i]? = some p → (cLn l)[i * 3]? = some (.int .i64 p.first) ∧ (cLn l)[i * 3 + 1]? = some (.int .i64 p.last) ∧ (cLn l)[i * 3 + 2]? = some (.int .i64 p.n)
  | p :: r, 0, q, h => by
    simp at h
    subst h
    exact ⟨rfl, rfl, rfl⟩
  | p :: r, i + 1, q, h => by
    simp at h
    obtain ⟨h1, h2, h3⟩ := cLn_at r i q h
    have e : (i + 1) * 3 = i * 3 + 3 := by omega
    rw [e]
    exact ⟨h1, h2, h3⟩
theorem cLk_at : ∀ (l : List Lk) (i : Nat) (p : Lk), l[i]? = some p → (cLk l)[i * 2]? = some (.int .i64 p.line) ∧ (cLk l)[i * 2 + 1]? = some (.int .i64 p.next)
  | p :: r, 0, q, h => by
    simp at h
    subst h
    exact ⟨rfl, rfl⟩
  | p :: r, i + 1, q, h => by
    simp at h
    obtain ⟨h1, h2⟩ := cLk_at r i q h
    have e : (i + 1) * 2 = i * 2 + 2 := by omega
    rw [e]
    exact ⟨h1, h2⟩
theorem cLn_set0 : ∀ (l : List Ln) (i : Nat) (p : Ln) (v : Int), l[i]? = some p → cLn (l.set i { p with first := v }) = (cLn l).set (i * 3) (.int .i64 v)
  | p :: r, 0, q, v, h => by
    simp at h
    subst h
    rfl
  | p :: r, i + 1, q, v, h => by
    simp at h
    have e : (i + 1) * 3 = i * 3 + 3 := by omega
    rw [e]
    show cLn (p :: r.set i _) = _
    simp only [cLn, List.set_cons_succ]
    rw [cLn_set0 r i q v h]
theorem cLn_set1 : ∀ (l : List Ln) (i : Nat) (p : Ln) (v : Int), l[i]? = some p → cLn (l.set i { p with last := v }) = (cLn l).set (i * 3 + 1) (.int .i64 v)
  | p :: r, 0, q, v, h => by
    simp at h
    subst h
    rfl
  | p :: r, i + 1, q, v, h => by
    simp at h
    have e : (i + 1) * 3 + 1 = i * 3 + 1 + 3 := by omega
    rw [e]
    show cLn (p :: r.set i _) = _
    simp only [cLn, List.set_cons_succ]
    rw [cLn_set1 r i q v h]
theorem cLn_set2 : ∀ (l : List Ln) (i : Nat) (p : Ln) (v : Int), l[i]? = some p → cLn (l.set i { p with n := v }) = (cLn l).set (i * 3 + 2) (.int .i64 v)
  | p :: r, 0, q, v, h => by
    simp at h
    subst h
    rfl
  | p :: r, i + 1, q, v, h => by
    simp at h
    have e : (i + 1) * 3 + 2 = i * 3 + 2 + 3 := by omega
    rw [e]
    show cLn (p :: r.set i _) = _
    simp only [cLn, List.set_cons_succ]
    rw [cLn_set2 r i q v h]
theorem cLk_set0 : ∀ (l : List Lk) (i : Nat) (p : Lk) (v : Int), l[i]? = some p → cLk (l.set i { p with line := v }) = (cLk l).set (i * 2) (.int .i64 v)
  | p :: r, 0, q, v, h => by
    simp at h
    subst h
    rfl
  | p :: r, i + 1, q, v, h => by
    simp at h
    have e : (i + 1) * 2 = i * 2 + 2 := by omega
    rw [e]
    show cLk (p :: r.set i _) = _
    simp only [cLk, List.set_cons_succ]
    rw [cLk_set0 r i q v h]
theorem cLk_set1 : ∀ (l : List Lk) (i : Nat) (p : Lk) (v : Int), l[i]? = some p → cLk (l.set i { p with next := v }) = (cLk l).set (i * 2 + 1) (.int .i64 v)
  | p :: r, 0, q, v, h => by
    simp at h
    subst h
    rfl
  | p :: r, i + 1, q, v, h => by
    simp at h
    have e : (i + 1) * 2 + 1 = i * 2 + 1 + 2 := by omega
    rw [e]
    show cLk (p :: r.set i _) = _
    simp only [cLk, List.set_cons_succ]
    rw [cLk_set1 r i q v h]

/-- Chains in memory: the struct in block pb, the lines in b1, the places in b2. -/
structure CAt (w : World) (pb b1 b2 : Nat) (ln : List Ln) (lk : List Lk) : Prop where
  ptr : w.heap[pb]? = some (.cells #[.slice (some ⟨b1, 0, none⟩) ln.length ln.length, .slice (some ⟨b2, 0, none⟩) lk.length lk.length] 295 (0, 0))
  r1 : w.heap[b1]? = some (.cells (cLn ln).toArray 291 (0, 0))
  r2 : w.heap[b2]? = some (.cells (cLk lk).toArray 324 (0, 0))
section
variable {w : World} {pb b1 b2 : Nat} {ln : List Ln} {lk : List Lk}
theorem ty_ne {w : World} {a b : Nat} {x y : Array Value} {s t : TypeId} {f g : Nat × Nat} (h1 : w.heap[a]? = some (.cells x s f)) (h2 : w.heap[b]? = some (.cells y t g)) (h : s ≠ t) : a ≠ b := by
  rintro rfl
  have := h1.symm.trans h2
  injection this with this
  injection this with _ h3
  exact h h3
theorem CAt.ne1 (h : CAt w pb b1 b2 ln lk) : pb ≠ b1 := ty_ne h.ptr h.r1 (by decide)
theorem CAt.ne2 (h : CAt w pb b1 b2 ln lk) : pb ≠ b2 := ty_ne h.ptr h.r2 (by decide)
theorem CAt.ne3 (h : CAt w pb b1 b2 ln lk) : b1 ≠ b2 := ty_ne h.r1 h.r2 (by decide)
theorem CAt.c0 (h : CAt w pb b1 b2 ln lk) : w.cell? ⟨pb, 0, none⟩ = some (.slice (some ⟨b1, 0, none⟩) ln.length ln.length) := by rw [cell_of_row _ _ _ _ _ _ h.ptr]; rfl
theorem CAt.c1 (h : CAt w pb b1 b2 ln lk) : w.cell? ⟨pb, 1, none⟩ = some (.slice (some ⟨b2, 0, none⟩) lk.length lk.length) := by rw [cell_of_row _ _ _ _ _ _ h.ptr]; rfl
theorem CAt.ln_ (h : CAt w pb b1 b2 ln lk) {i : Nat} {p : Ln} (hp : ln[i]? = some p) :
    w.cell? ⟨b1, i * 3, none⟩ = some (.int .i64 p.first) ∧ w.cell? ⟨b1, i * 3 + 1, none⟩ = some (.int .i64 p.last) ∧ w.cell? ⟨b1, i * 3 + 2, none⟩ = some (.int .i64 p.n) := by
  obtain ⟨h1, h2, h3⟩ := cLn_at ln i p hp
  refine ⟨?_, ?_, ?_⟩ <;> rw [cell_of_row _ _ _ _ _ _ h.r1] <;> simpa
theorem CAt.lk_ (h : CAt w pb b1 b2 ln lk) {i : Nat} {p : Lk} (hp : lk[i]? = some p) :
    w.cell? ⟨b2, i * 2, none⟩ = some (.int .i64 p.line) ∧ w.cell? ⟨b2, i * 2 + 1, none⟩ = some (.int .i64 p.next) := by
  obtain ⟨h1, h2⟩ := cLk_at lk i p hp
  refine ⟨?_, ?_⟩ <;> rw [cell_of_row _ _ _ _ _ _ h.r2] <;> simpa
theorem CAt.f1 (h : CAt w pb b1 b2 ln lk) (j : Nat) : w.frozen? ⟨b1, j, none⟩ = false := frozen_of_row _ _ _ _ _ h.r1
theorem CAt.f2 (h : CAt w pb b1 b2 ln lk) (j : Nat) : w.frozen? ⟨b2, j, none⟩ = false := frozen_of_row _ _ _ _ _ h.r2
theorem CAt.drewN (h : CAt w pb b1 b2 ln lk) (n : Nat) : CAt (w.drewN n) pb b1 b2 ln lk := ⟨h.ptr, h.r1, h.r2⟩
theorem CAt.set1 (h : CAt w pb b1 b2 ln lk) {i j : Nat} {p q : Ln} {v : Int} (hp : ln[i]? = some p) (hc : cLn (ln.set i q) = (cLn ln).set j (.int .i64 v)) : CAt (w.setCell ⟨b1, j, none⟩ (.int .i64 v)) pb b1 b2 (ln.set i q) lk := by
  refine ⟨?_, ?_, ?_⟩
  · rw [heap_setCell_other _ _ _ _ (by simpa using h.ne1), List.length_set]; exact h.ptr
  · rw [heap_setCell_same _ b1 j _ _ _ h.r1, hc]; simp
  · rw [heap_setCell_other _ _ _ _ (by simpa using h.ne3.symm)]; exact h.r2
theorem CAt.set2 (h : CAt w pb b1 b2 ln lk) {i j : Nat} {p q : Lk} {v : Int} (hp : lk[i]? = some p) (hc : cLk (lk.set i q) = (cLk lk).set j (.int .i64 v)) : CAt (w.setCell ⟨b2, j, none⟩ (.int .i64 v)) pb b1 b2 ln (lk.set i q) := by
  refine ⟨?_, ?_, ?_⟩
  · rw [heap_setCell_other _ _ _ _ (by simpa using h.ne2), List.length_set]; exact h.ptr
  · rw [heap_setCell_other _ _ _ _ (by simpa using h.ne3)]; exact h.r1
  · rw [heap_setCell_same _ b2 j _ _ _ h.r2, hc]; simp
theorem CAt.setFirst (h : CAt w pb b1 b2 ln lk) {i : Nat} {p : Ln} (hp : ln[i]? = some p) (v : Int) : CAt (w.setCell ⟨b1, i * 3, none⟩ (.int .i64 v)) pb b1 b2 (ln.set i { p with first := v }) lk := h.set1 hp (cLn_set0 ln i p v hp)
theorem CAt.setLast (h : CAt w pb b1 b2 ln lk) {i : Nat} {p : Ln} (hp : ln[i]? = some p) (v : Int) : CAt (w.setCell ⟨b1, i * 3 + 1, none⟩ (.int .i64 v)) pb b1 b2 (ln.set i { p with last := v }) lk := h.set1 hp (cLn_set1 ln i p v hp)
theorem CAt.setN (h : CAt w pb b1 b2 ln lk) {i : Nat} {p : Ln} (hp : ln[i]? = some p) (v : Int) : CAt (w.setCell ⟨b1, i * 3 + 2, none⟩ (.int .i64 v)) pb b1 b2 (ln.set i { p with n := v }) lk := h.set1 hp (cLn_set2 ln i p v hp)
theorem CAt.setLine (h : CAt w pb b1 b2 ln lk) {i : Nat} {p : Lk} (hp : lk[i]? = some p) (v : Int) : CAt (w.setCell ⟨b2, i * 2, none⟩ (.int .i64 v)) pb b1 b2 ln (lk.set i { p with line := v }) := h.set2 hp (cLk_set0 lk i p v hp)
theorem CAt.setNext (h : CAt w pb b1 b2 ln lk) {i : Nat} {p : Lk} (hp : lk[i]? = some p) (v : Int) : CAt (w.setCell ⟨b2, i * 2 + 1, none⟩ (.int .i64 v)) pb b1 b2 ln (lk.set i { p with next := v }) := h.set2 hp (cLk_set1 lk i p v hp)
theorem CAt.two (h : CAt w pb b1 b2 ln lk) {w' : World} {g k : Nat} (p : Two g k w w') (h1 : pb ≠ g) (h2 : pb ≠ k) (h3 : b1 ≠ g) (h4 : b1 ≠ k) (h5 : b2 ≠ g) (h6 : b2 ≠ k) : CAt w' pb b1 b2 ln lk :=
  ⟨(p.block pb (Array.getElem?_eq_some_iff.1 h.ptr).1 h1 h2).trans h.ptr, (p.block b1 (Array.getElem?_eq_some_iff.1 h.r1).1 h3 h4).trans h.r1, (p.block b2 (Array.getElem?_eq_some_iff.1 h.r2).1 h5 h6).trans h.r2⟩
theorem CAt.below (h : CAt w pb b1 b2 ln lk) {w' : World} (p : Below w.heap.size w w') : CAt w' pb b1 b2 ln lk :=
  ⟨(p.block pb (Array.getElem?_eq_some_iff.1 h.ptr).1).trans h.ptr, (p.block b1 (Array.getElem?_eq_some_iff.1 h.r1).1).trans h.r1, (p.block b2 (Array.getElem?_eq_some_iff.1 h.r2).1).trans h.r2⟩
end
theorem has_any (pb b1 b2 : Nat) (i : Int) (ln : List Ln) (lk : List Lk) (w : World) (h : CAt w pb b1 b2 ln lk) :
    Calls Tryz.prog 142 #[.pointer (some ⟨pb, 0, none⟩), .int .i64 i] w fun e w' => e = .returned (.bool (decide (0 ≤ i ∧ i < ln.length))) ∧ w' = w := by
  have c0 := h.c0
  clear h
  generalize ln.length = n at *
  by_cases h0 : 0 ≤ i
  · by_cases h1 : i < n
    · rw [decide_eq_true ⟨h0, h1⟩]
      have d1 : decide (i < (n : Int)) = true := decide_eq_true h1
      go_enter Tryz.func142, Tryz.ntmps142
      go_wp2
      go_ret
      exact ⟨rfl, rfl⟩
    · rw [decide_eq_false (fun h => h1 h.2)]
      have d1 : decide (i < (n : Int)) = false := decide_eq_false h1
      go_enter Tryz.func142, Tryz.ntmps142
      go_wp2
      go_ret
      exact ⟨rfl, rfl⟩
  · rw [decide_eq_false (fun h => h0 h.1)]
    go_enter Tryz.func142, Tryz.ntmps142
    go_wp2
    go_ret
    exact ⟨rfl, rfl⟩
theorem len_yes (pb b1 b2 l : Nat) (x : Ln) (ln : List Ln) (lk : List Lk) (w : World) (h : CAt w pb b1 b2 ln lk) (hx : ln[l]? = some x) (hl : ln.length ≤ 65536) :
    Calls Tryz.prog 84 #[.pointer (some ⟨pb, 0, none⟩), .int .i64 (l : Nat)] w fun e w' => e = .returned (.int .i64 x.n) ∧ w' = w := by
  have hlt := lt_of_some hx
  have C := Lib.hid (has_any pb b1 b2 (l : Nat) ln lk w h)
  rw [decide_eq_true (show (0 : Int) ≤ (l : Nat) ∧ ((l : Nat) : Int) < (ln.length : Nat) by omega)] at C
  have c0 := h.c0
  obtain ⟨q0, q1, q2⟩ := h.ln_ hx
  generalize x.n = xn at *
  clear h hx
  go_enter Tryz.func84, Tryz.ntmps84
  go_wp2_with fail
  refine C.out.mono ?_
  rintro e w1 ⟨rfl, rfl⟩
  go_wp2
  go_ret
  exact ⟨rfl, rfl⟩
end Go.Proofs.YtpanmfdbdgecaaaGreat.C.CH

namespace Go.Proofs.YtpanmfdbdgecaaaGreat.C.CH
open Go.RowKit
set_option linter.unusedVariables false
theorem find_no (pb b1 b2 : Nat) (i k : Int) (ln : List Ln) (lk : List Lk) (w : World) (h : CAt w pb b1 b2 ln lk) (hi : ¬ (0 ≤ i ∧ i < ln.length)) :
    Calls Tryz.prog 143 #[.pointer (some ⟨pb, 0, none⟩), .int .i64 i, .int .i64 k] w fun e w' => e = .returned (.tuple #[.int .i64 0, .int .i64 (-1), .bool false]) ∧ w' = w := by
  have C := Lib.hid (has_any pb b1 b2 i ln lk w h)
  rw [decide_eq_false hi] at C
  clear h hi
  go_enter Tryz.func143, Tryz.ntmps143
  go_wp2_with fail
  refine C.out.mono ?_
  rintro e w1 ⟨rfl, rfl⟩
  go_wp2
  go_ret3
  exact ⟨rfl, rfl⟩
theorem find_out (pb b1 b2 l : Nat) (k : Int) (x : Ln) (ln : List Ln) (lk : List Lk) (w : World) (h : CAt w pb b1 b2 ln lk) (hx : ln[l]? = some x) (hl : ln.length ≤ 65536) (hk : k < 0 ∨ x.n ≤ k) :
    Calls Tryz.prog 143 #[.pointer (some ⟨pb, 0, none⟩), .int .i64 (l : Nat), .int .i64 k] w fun e w' => e = .returned (.tuple #[.int .i64 0, .int .i64 (-1), .bool false]) ∧ w' = w := by
  have hlt := lt_of_some hx
  have C := Lib.hid (has_any pb b1 b2 (l : Nat) ln lk w h)
  rw [decide_eq_true (show (0 : Int) ≤ (l : Nat) ∧ ((l : Nat) : Int) < (ln.length : Nat) by omega)] at C
  have c0 := h.c0
  obtain ⟨q0, q1, q2⟩ := h.ln_ hx
  generalize x.n = xn at *
  clear h hx
  by_cases h0 : k < 0
  · go_enter Tryz.func143, Tryz.ntmps143
    go_wp2_with fail
    refine C.out.mono ?_
    rintro e w1 ⟨rfl, rfl⟩
    go_wp2
    go_ret3
    exact ⟨rfl, rfl⟩
  · have h1 : xn ≤ k := by omega
    have h0' : 0 ≤ k := by omega
    go_enter Tryz.func143, Tryz.ntmps143
    go_wp2_with fail
    refine C.out.mono ?_
    rintro e w1 ⟨rfl, rfl⟩
    go_wp2
    go_ret3
    exact ⟨rfl, rfl⟩
/-- The one ahead of the k-th. -/
def aheadOr (q : List Nat) (k : Nat) : Int := if k = 0 then -1 else atOr q (k - 1)
set_option maxRecDepth 100000 in
set_option maxHeartbeats 1000000 in
theorem find_yes (pb b1 b2 l k p : Nat) (q : List Nat) (Q : List (List Nat)) (ln : List Ln) (lk : List Lk) (w : World) (h : CAt w pb b1 b2 ln lk) (hI : CInv ln lk Q) (hq : Q[l]? = some q) (hp : q[k]? = some p) (hl : ln.length ≤ 65536) (hl2 : lk.length ≤ 65536) (hq2 : q.length ≤ 65536) :
    Calls Tryz.prog 143 #[.pointer (some ⟨pb, 0, none⟩), .int .i64 (l : Nat), .int .i64 (k : Nat)] w fun e w' => e = .returned (.tuple #[.int .i64 (p : Nat), .int .i64 (aheadOr q k), .bool true]) ∧ ∃ m, w' = w.drewN m := by
  have hx := hI.line l q hq
  have hlt := lt_of_some hx
  have hkq := lt_of_some hp
  have C := Lib.hid (has_any pb b1 b2 (l : Nat) ln lk w h)
  rw [decide_eq_true (show (0 : Int) ≤ (l : Nat) ∧ ((l : Nat) : Int) < (ln.length : Nat) by omega)] at C
  have c0 := h.c0
  obtain ⟨q0, q1, q2⟩ := h.ln_ hx
  have q0 : w.cell? ⟨b1, l * 3, none⟩ = some (.int .i64 (atOr q 0)) := q0
  have q2 : w.cell? ⟨b1, l * 3 + 2, none⟩ = some (.int .i64 (q.length : Nat)) := q2
  have H := Lib.hid h
  have HI := Lib.hid hI
  have HQ := Lib.hid hq
  have HP := Lib.hid hp
  generalize hn : q.length = n at *
  have HNQ := Lib.hid hn
  have dk : decide (n ≤ k) = false := by simp; omega
  have dk3 : decide ((k : Int) < 0) = false := by simp
  clear h hI hq hx hp q1 hn
  go_enter Tryz.func143, Tryz.ntmps143
  go_wp2_with fail
  refine C.out.mono ?_
  rintro e w1 ⟨rfl, rfl⟩
  clear C
  go_wp2_with fail
  go_quiet (fail)
  go_wp2_with fail
  go_loopw [40, 9, 10] (fun c u v wr => ∃ t : Nat, t ≤ k ∧ c = .int .i64 (t : Nat) ∧ u = .int .i64 (aheadOr q t) ∧ v = .int .i64 (atOr q t) ∧ ∃ m, wr = w1.drewN m)
    (fun c _ _ _ => k - (intOf c).toNat)
  case atStart => exact ⟨0, by omega, rfl, rfl, rfl, _, rfl⟩
  case round =>
    obtain ⟨t, ht, rfl, rfl, rfl, m, rfl⟩ := hrel
    by_cases hlt' : t < k
    · obtain ⟨p', hp', hat⟩ := atOr_lt (q := q) (k := t) (by have := HNQ.out; omega)
      have hs := HI.out.seg l q t p' HQ.out hp'
      have hlp := lt_of_some hs
      obtain ⟨s0, s1⟩ := H.out.lk_ hs
      have s1 : w1.cell? ⟨b2, p' * 2 + 1, none⟩ = some (.int .i64 (atOr q (t + 1))) := s1
      have cc1 := H.out.c1
      have ha : aheadOr q (t + 1) = (p' : Int) := by simp [aheadOr, hat]
      have HA := Lib.hid ha
      rw [hat]
      generalize hnx : atOr q (t + 1) = nx at *
      have HNX := Lib.hid hnx
      clear hnx
      clear hs hp' ha s0 hat
      go_wp2_with fail
      go_quiet (fail)
      go_wp2
      go_roundw
      case rel => exact ⟨t + 1, by omega, by go_num, by rw [HA.out], by rw [HNX.out], _, rfl⟩
      case measure => simp [intOf]; omega
    · obtain rfl : t = k := by omega
      rw [atOr_some HP.out]
      go_wp2
      go_ret3
      exact ⟨rfl, _, rfl⟩
end Go.Proofs.YtpanmfdbdgecaaaGreat.C.CH

namespace Go.Proofs.YtpanmfdbdgecaaaGreat.C.CH
open Go.RowKit
set_option linter.unusedVariables false
set_option maxRecDepth 100000 in
set_option maxHeartbeats 2000000 in
theorem push_first (pb b1 b2 l p : Nat) (f la nx : Int) (ln : List Ln) (lk : List Lk) (w : World) (h : CAt w pb b1 b2 ln lk) (hx : ln[l]? = some ⟨f, la, 0⟩) (hy : lk[p]? = some ⟨-1, nx⟩) (hll : ln.length ≤ 65536) (hll2 : lk.length ≤ 65536) :
    Calls Tryz.prog 152 #[.pointer (some ⟨pb, 0, none⟩), .int .i64 (l : Nat), .int .i64 (p : Nat)] w fun e w' => e = .returned (.bool true) ∧ CAt w' pb b1 b2 (ln.set l ⟨p, p, 1⟩) (lk.set p ⟨l, -1⟩) ∧ Two b1 b2 w w' := by
  have hlt := lt_of_some hx
  have hltp := lt_of_some hy
  have C := Lib.hid (has_any pb b1 b2 (l : Nat) ln lk w h)
  rw [decide_eq_true (show (0 : Int) ≤ (l : Nat) ∧ ((l : Nat) : Int) < (ln.length : Nat) by omega)] at C
  have d1 : decide (lk.length ≤ p) = false := by simp; omega
  have p1 := Two.refl b1 b2 w
  have h0 := h
  have hl0 := hx
  have hp0 := hy
  have c0_0 := h.c0
  have c1_0 := h.c1
  have e_0 : w.cell? ⟨b2, p * 2, none⟩ = some (.int .i64 (-1)) := (h.lk_ hy).1
  have d_0 : w.cell? ⟨b1, l * 3 + 2, none⟩ = some (.int .i64 0) := (h.ln_ hx).2.2
  have ka_0 : w.cell? ⟨b1, l * 3, none⟩ = some (.int .i64 f) := (h0.ln_ hl0).1
  have fa_0 := h0.f1 (l * 3)
  have h1 : CAt (w.setCell ⟨b1, l * 3, none⟩ (.int .i64 (p : Nat))) pb b1 b2 (ln.set l ⟨(p : Nat), la, 0⟩) lk := by
    have := h0.setFirst hl0 (p : Nat)
    exact this
  have hl1 : (ln.set l ⟨(p : Nat), la, 0⟩)[l]? = some ⟨(p : Nat), la, 0⟩ := List.getElem?_set_self hlt
  have hp1 := hp0
  have kb_1 : (w.setCell ⟨b1, l * 3, none⟩ (.int .i64 (p : Nat))).cell? ⟨b1, l * 3 + 1, none⟩ = some (.int .i64 la) := (h1.ln_ hl1).2.1
  have fb_1 := h1.f1 (l * 3 + 1)
  have h2 : CAt ((w.setCell ⟨b1, l * 3, none⟩ (.int .i64 (p : Nat))).setCell ⟨b1, l * 3 + 1, none⟩ (.int .i64 (p : Nat))) pb b1 b2 (ln.set l ⟨(p : Nat), (p : Nat), 0⟩) lk := by
    have := h1.setLast hl1 (p : Nat)
    rw [List.set_set] at this
    exact this
  have hl2 : (ln.set l ⟨(p : Nat), (p : Nat), 0⟩)[l]? = some ⟨(p : Nat), (p : Nat), 0⟩ := List.getElem?_set_self hlt
  have hp2 := hp1
  have kd_2 : ((w.setCell ⟨b1, l * 3, none⟩ (.int .i64 (p : Nat))).setCell ⟨b1, l * 3 + 1, none⟩ (.int .i64 (p : Nat))).cell? ⟨b1, l * 3 + 2, none⟩ = some (.int .i64 0) := (h2.ln_ hl2).2.2
  have fd_2 := h2.f1 (l * 3 + 2)
  have h3 : CAt (((w.setCell ⟨b1, l * 3, none⟩ (.int .i64 (p : Nat))).setCell ⟨b1, l * 3 + 1, none⟩ (.int .i64 (p : Nat))).setCell ⟨b1, l * 3 + 2, none⟩ (.int .i64 1)) pb b1 b2 (ln.set l ⟨(p : Nat), (p : Nat), 1⟩) lk := by
    have := h2.setN hl2 1
    rw [List.set_set] at this
    exact this
  have hl3 : (ln.set l ⟨(p : Nat), (p : Nat), 1⟩)[l]? = some ⟨(p : Nat), (p : Nat), 1⟩ := List.getElem?_set_self hlt
  have hp3 := hp2
  have ke_3 : (((w.setCell ⟨b1, l * 3, none⟩ (.int .i64 (p : Nat))).setCell ⟨b1, l * 3 + 1, none⟩ (.int .i64 (p : Nat))).setCell ⟨b1, l * 3 + 2, none⟩ (.int .i64 1)).cell? ⟨b2, p * 2, none⟩ = some (.int .i64 (-1)) := (h3.lk_ hp3).1
  have fe_3 := h3.f2 (p * 2)
  have c1_3 := h3.c1
  have h4 : CAt ((((w.setCell ⟨b1, l * 3, none⟩ (.int .i64 (p : Nat))).setCell ⟨b1, l * 3 + 1, none⟩ (.int .i64 (p : Nat))).setCell ⟨b1, l * 3 + 2, none⟩ (.int .i64 1)).setCell ⟨b2, p * 2, none⟩ (.int .i64 (l : Nat))) pb b1 b2 (ln.set l ⟨(p : Nat), (p : Nat), 1⟩) (lk.set p ⟨(l : Nat), nx⟩) := by
    have := h3.setLine hp3 (l : Nat)
    exact this
  have hl4 := hl3
  have hp4 : (lk.set p ⟨(l : Nat), nx⟩)[p]? = some ⟨(l : Nat), nx⟩ := List.getElem?_set_self (by (try simp only [List.length_set]); exact hltp)
  have kg_4 : ((((w.setCell ⟨b1, l * 3, none⟩ (.int .i64 (p : Nat))).setCell ⟨b1, l * 3 + 1, none⟩ (.int .i64 (p : Nat))).setCell ⟨b1, l * 3 + 2, none⟩ (.int .i64 1)).setCell ⟨b2, p * 2, none⟩ (.int .i64 (l : Nat))).cell? ⟨b2, p * 2 + 1, none⟩ = some (.int .i64 nx) := (h4.lk_ hp4).2
  have fg_4 := h4.f2 (p * 2 + 1)
  have h5 : CAt (((((w.setCell ⟨b1, l * 3, none⟩ (.int .i64 (p : Nat))).setCell ⟨b1, l * 3 + 1, none⟩ (.int .i64 (p : Nat))).setCell ⟨b1, l * 3 + 2, none⟩ (.int .i64 1)).setCell ⟨b2, p * 2, none⟩ (.int .i64 (l : Nat))).setCell ⟨b2, p * 2 + 1, none⟩ (.int .i64 (-1))) pb b1 b2 (ln.set l ⟨(p : Nat), (p : Nat), 1⟩) (lk.set p ⟨(l : Nat), (-1)⟩) := by
    have := h4.setNext hp4 (-1)
    rw [List.set_set] at this
    exact this
  have hl5 := hl4
  have hp5 : (lk.set p ⟨(l : Nat), (-1)⟩)[p]? = some ⟨(l : Nat), (-1)⟩ := List.getElem?_set_self (by (try simp only [List.length_set]); exact hltp)
  have HF := Lib.hid h5
  have HT : Hid (Two b1 b2 w (((((w.setCell ⟨b1, l * 3, none⟩ (.int .i64 (p : Nat))).setCell ⟨b1, l * 3 + 1, none⟩ (.int .i64 (p : Nat))).setCell ⟨b1, l * 3 + 2, none⟩ (.int .i64 1)).setCell ⟨b2, p * 2, none⟩ (.int .i64 (l : Nat))).setCell ⟨b2, p * 2 + 1, none⟩ (.int .i64 (-1)))) := (Two.setCell (x := ⟨b2, p * 2 + 1, none⟩) (Two.setCell (x := ⟨b2, p * 2, none⟩) (Two.setCell (x := ⟨b1, l * 3 + 2, none⟩) (Two.setCell (x := ⟨b1, l * 3 + 1, none⟩) (Two.setCell (x := ⟨b1, l * 3, none⟩) p1 (.inl rfl) _) (.inl rfl) _) (.inl rfl) _) (.inr rfl) _) (.inr rfl) _)
  clear h hx hy p1 h0 hl0 hp0 h1 hl1 hp1 h2 hl2 hp2 h3 hl3 hp3 h4 hl4 hp4 h5 hl5 hp5
  go_enter Tryz.func152, Tryz.ntmps152
  go_wp2_with fail
  refine C.out.mono ?_
  rintro e w1 ⟨rfl, rfl⟩
  go_wp2
  go_ret
  exact ⟨rfl, HF.out, HT.out⟩
set_option maxRecDepth 100000 in
set_option maxHeartbeats 2000000 in
theorem push_next (pb b1 b2 l p u : Nat) (f n nx zl zn : Int) (ln : List Ln) (lk : List Lk) (w : World) (h : CAt w pb b1 b2 ln lk) (hx : ln[l]? = some ⟨f, (u : Nat), n⟩) (hy : lk[p]? = some ⟨-1, nx⟩) (hz : lk[u]? = some ⟨zl, zn⟩) (hup : u ≠ p) (hn0 : 0 < n) (hn1 : n ≤ 65536) (hll : ln.length ≤ 65536) (hll2 : lk.length ≤ 65536) :
    Calls Tryz.prog 152 #[.pointer (some ⟨pb, 0, none⟩), .int .i64 (l : Nat), .int .i64 (p : Nat)] w fun e w' => e = .returned (.bool true) ∧ CAt w' pb b1 b2 (ln.set l ⟨f, p, n + 1⟩) ((lk.set u ⟨zl, (p : Nat)⟩).set p ⟨l, -1⟩) ∧ Two b1 b2 w w' := by
  have hlt := lt_of_some hx
  have hltp := lt_of_some hy
  have hltu := lt_of_some hz
  have C := Lib.hid (has_any pb b1 b2 (l : Nat) ln lk w h)
  rw [decide_eq_true (show (0 : Int) ≤ (l : Nat) ∧ ((l : Nat) : Int) < (ln.length : Nat) by omega)] at C
  have d1 : decide (lk.length ≤ p) = false := by simp; omega
  have dn : (n == 0) = false := beq_false_of_ne (by omega)
  have hwn : IntKind.i64.wrap (n + 1) = n + 1 := IntWalk.i64_in _ (by omega)
  have c0 := h.c0
  have c1 := h.c1
  obtain ⟨a0, b0, d0⟩ := h.ln_ hx
  obtain ⟨e0, g0⟩ := h.lk_ hy
  have H := Lib.hid h
  have Hx := Lib.hid hx
  have Hy := Lib.hid hy
  have Hz := Lib.hid hz
  clear h hx hy hz
  go_enter Tryz.func152, Tryz.ntmps152
  go_wp2_with fail
  refine C.out.mono ?_
  rintro e w1 ⟨rfl, rfl⟩
  clear C
  go_wp2_with fail
  refine wp_region_still_tail 11 (by kernel_rfl) (by kernel_rfl) ?_
  change wpStill _ _ w1.drew (fun a' => wpList _ _ _ _ a' w1.drew) _ _
  simp only [List.take_succ_cons, List.take_zero, List.drop_succ_cons, List.drop_zero]
  have h0 : CAt w1.drew pb b1 b2 ln lk := ⟨H.out.ptr, H.out.r1, H.out.r2⟩
  have p1 : Two b1 b2 w1 w1.drew := (Two.refl b1 b2 w1).drewN 1
  clear H c0 c1 a0 b0 d0 e0 g0
  generalize w1.drew = w2 at h0 p1 ⊢
  have H0 := Lib.hid h0
  have c0 := h0.c0
  have c1 := h0.c1
  obtain ⟨a0, b0, d0⟩ := h0.ln_ Hx.out
  clear h0
  iterate 11 still_step
  refine wpStill_nil ?_
  have h0 := H0.out
  have hl0 := Hx.out
  have hp0 := Hy.out
  have hu0 := Hz.out
  clear H0 Hx Hy Hz c0 c1 a0 b0 d0
  have kg_0 : w2.cell? ⟨b2, u * 2 + 1, none⟩ = some (.int .i64 zn) := (h0.lk_ hu0).2
  have fg_0 := h0.f2 (u * 2 + 1)
  have c1_0 := h0.c1
  have h1 : CAt (w2.setCell ⟨b2, u * 2 + 1, none⟩ (.int .i64 (p : Nat))) pb b1 b2 ln (lk.set u ⟨zl, (p : Nat)⟩) := by
    have := h0.setNext hu0 (p : Nat)
    exact this
  have hl1 := hl0
  have hp1 : (lk.set u ⟨zl, (p : Nat)⟩)[p]? = some ⟨(-1), nx⟩ := by
    rw [List.getElem?_set_ne (by omega)]
    have := hp0
    exact this
  have hu1 : (lk.set u ⟨zl, (p : Nat)⟩)[u]? = some ⟨zl, (p : Nat)⟩ := List.getElem?_set_self (by (try simp only [List.length_set]); exact hltu)
  have kb_1 : (w2.setCell ⟨b2, u * 2 + 1, none⟩ (.int .i64 (p : Nat))).cell? ⟨b1, l * 3 + 1, none⟩ = some (.int .i64 (u : Nat)) := (h1.ln_ hl1).2.1
  have fb_1 := h1.f1 (l * 3 + 1)
  have h2 : CAt ((w2.setCell ⟨b2, u * 2 + 1, none⟩ (.int .i64 (p : Nat))).setCell ⟨b1, l * 3 + 1, none⟩ (.int .i64 (p : Nat))) pb b1 b2 (ln.set l ⟨f, (p : Nat), n⟩) (lk.set u ⟨zl, (p : Nat)⟩) := by
    have := h1.setLast hl1 (p : Nat)
    exact this
  have hl2 : (ln.set l ⟨f, (p : Nat), n⟩)[l]? = some ⟨f, (p : Nat), n⟩ := List.getElem?_set_self hlt
  have hp2 := hp1
  have hu2 := hu1
  have kd_2 : ((w2.setCell ⟨b2, u * 2 + 1, none⟩ (.int .i64 (p : Nat))).setCell ⟨b1, l * 3 + 1, none⟩ (.int .i64 (p : Nat))).cell? ⟨b1, l * 3 + 2, none⟩ = some (.int .i64 n) := (h2.ln_ hl2).2.2
  have fd_2 := h2.f1 (l * 3 + 2)
  have h3 : CAt (((w2.setCell ⟨b2, u * 2 + 1, none⟩ (.int .i64 (p : Nat))).setCell ⟨b1, l * 3 + 1, none⟩ (.int .i64 (p : Nat))).setCell ⟨b1, l * 3 + 2, none⟩ (.int .i64 (n + 1))) pb b1 b2 (ln.set l ⟨f, (p : Nat), (n + 1)⟩) (lk.set u ⟨zl, (p : Nat)⟩) := by
    have := h2.setN hl2 (n + 1)
    rw [List.set_set] at this
    exact this
  have hl3 : (ln.set l ⟨f, (p : Nat), (n + 1)⟩)[l]? = some ⟨f, (p : Nat), (n + 1)⟩ := List.getElem?_set_self hlt
  have hp3 := hp2
  have hu3 := hu2
  have ke_3 : (((w2.setCell ⟨b2, u * 2 + 1, none⟩ (.int .i64 (p : Nat))).setCell ⟨b1, l * 3 + 1, none⟩ (.int .i64 (p : Nat))).setCell ⟨b1, l * 3 + 2, none⟩ (.int .i64 (n + 1))).cell? ⟨b2, p * 2, none⟩ = some (.int .i64 (-1)) := (h3.lk_ hp3).1
  have fe_3 := h3.f2 (p * 2)
  have c1_3 := h3.c1
  simp only [List.length_set] at c1_3
  have h4 : CAt ((((w2.setCell ⟨b2, u * 2 + 1, none⟩ (.int .i64 (p : Nat))).setCell ⟨b1, l * 3 + 1, none⟩ (.int .i64 (p : Nat))).setCell ⟨b1, l * 3 + 2, none⟩ (.int .i64 (n + 1))).setCell ⟨b2, p * 2, none⟩ (.int .i64 (l : Nat))) pb b1 b2 (ln.set l ⟨f, (p : Nat), (n + 1)⟩) ((lk.set u ⟨zl, (p : Nat)⟩).set p ⟨(l : Nat), nx⟩) := by
    have := h3.setLine hp3 (l : Nat)
    exact this
  have hl4 := hl3
  have hp4 : ((lk.set u ⟨zl, (p : Nat)⟩).set p ⟨(l : Nat), nx⟩)[p]? = some ⟨(l : Nat), nx⟩ := List.getElem?_set_self (by (try simp only [List.length_set]); exact hltp)
  have hu4 : ((lk.set u ⟨zl, (p : Nat)⟩).set p ⟨(l : Nat), nx⟩)[u]? = some ⟨zl, (p : Nat)⟩ := by
    rw [List.getElem?_set_ne (by omega)]
    have := hu3
    exact this
  have kg_4 : ((((w2.setCell ⟨b2, u * 2 + 1, none⟩ (.int .i64 (p : Nat))).setCell ⟨b1, l * 3 + 1, none⟩ (.int .i64 (p : Nat))).setCell ⟨b1, l * 3 + 2, none⟩ (.int .i64 (n + 1))).setCell ⟨b2, p * 2, none⟩ (.int .i64 (l : Nat))).cell? ⟨b2, p * 2 + 1, none⟩ = some (.int .i64 nx) := (h4.lk_ hp4).2
  have fg_4 := h4.f2 (p * 2 + 1)
  have h5 : CAt (((((w2.setCell ⟨b2, u * 2 + 1, none⟩ (.int .i64 (p : Nat))).setCell ⟨b1, l * 3 + 1, none⟩ (.int .i64 (p : Nat))).setCell ⟨b1, l * 3 + 2, none⟩ (.int .i64 (n + 1))).setCell ⟨b2, p * 2, none⟩ (.int .i64 (l : Nat))).setCell ⟨b2, p * 2 + 1, none⟩ (.int .i64 (-1))) pb b1 b2 (ln.set l ⟨f, (p : Nat), (n + 1)⟩) ((lk.set u ⟨zl, (p : Nat)⟩).set p ⟨(l : Nat), (-1)⟩) := by
    have := h4.setNext hp4 (-1)
    rw [List.set_set] at this
    exact this
  have hl5 := hl4
  have hp5 : ((lk.set u ⟨zl, (p : Nat)⟩).set p ⟨(l : Nat), (-1)⟩)[p]? = some ⟨(l : Nat), (-1)⟩ := List.getElem?_set_self (by (try simp only [List.length_set]); exact hltp)
  have hu5 : ((lk.set u ⟨zl, (p : Nat)⟩).set p ⟨(l : Nat), (-1)⟩)[u]? = some ⟨zl, (p : Nat)⟩ := by
    rw [List.getElem?_set_ne (by omega)]
    have := hu4
    rw [List.getElem?_set_ne (by omega)] at this
    exact this
  have HF := Lib.hid h5
  have HT : Hid (Two b1 b2 w1 (((((w2.setCell ⟨b2, u * 2 + 1, none⟩ (.int .i64 (p : Nat))).setCell ⟨b1, l * 3 + 1, none⟩ (.int .i64 (p : Nat))).setCell ⟨b1, l * 3 + 2, none⟩ (.int .i64 (n + 1))).setCell ⟨b2, p * 2, none⟩ (.int .i64 (l : Nat))).setCell ⟨b2, p * 2 + 1, none⟩ (.int .i64 (-1)))) := (Two.setCell (x := ⟨b2, p * 2 + 1, none⟩) (Two.setCell (x := ⟨b2, p * 2, none⟩) (Two.setCell (x := ⟨b1, l * 3 + 2, none⟩) (Two.setCell (x := ⟨b1, l * 3 + 1, none⟩) (Two.setCell (x := ⟨b2, u * 2 + 1, none⟩) p1 (.inr rfl) _) (.inl rfl) _) (.inl rfl) _) (.inr rfl) _) (.inr rfl) _)
  clear p1 h0 hl0 hp0 hu0 h1 hl1 hp1 hu1 h2 hl2 hp2 hu2 h3 hl3 hp3 hu3 h4 hl4 hp4 hu4 h5 hl5 hp5 hu5
  go_wp2
  go_ret
  exact ⟨rfl, HF.out, HT.out⟩
set_option maxRecDepth 100000 in
set_option maxHeartbeats 2000000 in
theorem cut_he (pb b1 b2 l k p : Nat) (f la n yl : Int) (ln : List Ln) (lk : List Lk) (w : World) (h : CAt w pb b1 b2 ln lk) (C : Hid (Calls Tryz.prog 143 #[.pointer (some ⟨pb, 0, none⟩), .int .i64 (l : Nat), .int .i64 (k : Nat)] w fun e w' => e = .returned (.tuple #[.int .i64 (p : Nat), .int .i64 (-1), .bool true]) ∧ ∃ m, w' = w.drewN m))
    (hx : ln[l]? = some ⟨f, la, n⟩) (hy : lk[p]? = some ⟨yl, (-1)⟩) (hn0 : 0 < n) (hn1 : n ≤ 65536) (hll : ln.length ≤ 65536) (hll2 : lk.length ≤ 65536) :
    Calls Tryz.prog 169 #[.pointer (some ⟨pb, 0, none⟩), .int .i64 (l : Nat), .int .i64 (k : Nat)] w fun e w' => e = .returned (.tuple #[.int .i64 (p : Nat), .bool true]) ∧ CAt w' pb b1 b2 (ln.set l ⟨(-1), (-1), n - 1⟩) (lk.set p ⟨-1, -1⟩) ∧ Two b1 b2 w w' := by
  have hlt := lt_of_some hx
  have hltp := lt_of_some hy
  have hwn : IntKind.i64.wrap (n - 1) = n - 1 := IntWalk.i64_in _ (by omega)
  have H := Lib.hid h
  have Hx := Lib.hid hx
  have Hy := Lib.hid hy
  clear h hx hy
  go_enter Tryz.func169, Tryz.ntmps169
  go_wp2_with fail
  refine C.out.mono ?_
  rintro e w1 ⟨rfl, m, rfl⟩
  clear C
  have c0 := H.out.c0
  have c1 := H.out.c1
  obtain ⟨a0, b0, d0⟩ := H.out.ln_ Hx.out
  obtain ⟨e0, g0⟩ := H.out.lk_ Hy.out
  go_wp2_with fail
  go_quiet (fail)
  try simp only [World.drewN_drewN]
  have h0 := H.out.drewN (m + nq)
  have p1 := (Two.refl b1 b2 w).drewN (m + nq)
  clear H c0 c1 a0 b0 d0 e0 g0
  generalize w.drewN (m + nq) = w2 at h0 p1 ⊢
  have hl0 := Hx.out
  have hp0 := Hy.out
  clear Hx Hy
  have ka_0 : w2.cell? ⟨b1, l * 3, none⟩ = some (.int .i64 f) := (h0.ln_ hl0).1
  have fa_0 := h0.f1 (l * 3)
  have h1 : CAt (w2.setCell ⟨b1, l * 3, none⟩ (.int .i64 (-1))) pb b1 b2 (ln.set l ⟨(-1), la, n⟩) lk := by
    have := h0.setFirst hl0 (-1)
    exact this
  have hl1 : (ln.set l ⟨(-1), la, n⟩)[l]? = some ⟨(-1), la, n⟩ := List.getElem?_set_self hlt
  have hp1 := hp0
  have kb_1 : (w2.setCell ⟨b1, l * 3, none⟩ (.int .i64 (-1))).cell? ⟨b1, l * 3 + 1, none⟩ = some (.int .i64 la) := (h1.ln_ hl1).2.1
  have fb_1 := h1.f1 (l * 3 + 1)
  have h2 : CAt ((w2.setCell ⟨b1, l * 3, none⟩ (.int .i64 (-1))).setCell ⟨b1, l * 3 + 1, none⟩ (.int .i64 (-1))) pb b1 b2 (ln.set l ⟨(-1), (-1), n⟩) lk := by
    have := h1.setLast hl1 (-1)
    rw [List.set_set] at this
    exact this
  have hl2 : (ln.set l ⟨(-1), (-1), n⟩)[l]? = some ⟨(-1), (-1), n⟩ := List.getElem?_set_self hlt
  have hp2 := hp1
  have kd_2 : ((w2.setCell ⟨b1, l * 3, none⟩ (.int .i64 (-1))).setCell ⟨b1, l * 3 + 1, none⟩ (.int .i64 (-1))).cell? ⟨b1, l * 3 + 2, none⟩ = some (.int .i64 n) := (h2.ln_ hl2).2.2
  have fd_2 := h2.f1 (l * 3 + 2)
  have h3 : CAt (((w2.setCell ⟨b1, l * 3, none⟩ (.int .i64 (-1))).setCell ⟨b1, l * 3 + 1, none⟩ (.int .i64 (-1))).setCell ⟨b1, l * 3 + 2, none⟩ (.int .i64 (n - 1))) pb b1 b2 (ln.set l ⟨(-1), (-1), (n - 1)⟩) lk := by
    have := h2.setN hl2 (n - 1)
    rw [List.set_set] at this
    exact this
  have hl3 : (ln.set l ⟨(-1), (-1), (n - 1)⟩)[l]? = some ⟨(-1), (-1), (n - 1)⟩ := List.getElem?_set_self hlt
  have hp3 := hp2
  have ke_3 : (((w2.setCell ⟨b1, l * 3, none⟩ (.int .i64 (-1))).setCell ⟨b1, l * 3 + 1, none⟩ (.int .i64 (-1))).setCell ⟨b1, l * 3 + 2, none⟩ (.int .i64 (n - 1))).cell? ⟨b2, p * 2, none⟩ = some (.int .i64 yl) := (h3.lk_ hp3).1
  have fe_3 := h3.f2 (p * 2)
  have c1_3 := h3.c1
  have h4 : CAt ((((w2.setCell ⟨b1, l * 3, none⟩ (.int .i64 (-1))).setCell ⟨b1, l * 3 + 1, none⟩ (.int .i64 (-1))).setCell ⟨b1, l * 3 + 2, none⟩ (.int .i64 (n - 1))).setCell ⟨b2, p * 2, none⟩ (.int .i64 (-1))) pb b1 b2 (ln.set l ⟨(-1), (-1), (n - 1)⟩) (lk.set p ⟨(-1), (-1)⟩) := by
    have := h3.setLine hp3 (-1)
    exact this
  have hl4 := hl3
  have hp4 : (lk.set p ⟨(-1), (-1)⟩)[p]? = some ⟨(-1), (-1)⟩ := List.getElem?_set_self (by (try simp only [List.length_set]); exact hltp)
  have kg_4 : ((((w2.setCell ⟨b1, l * 3, none⟩ (.int .i64 (-1))).setCell ⟨b1, l * 3 + 1, none⟩ (.int .i64 (-1))).setCell ⟨b1, l * 3 + 2, none⟩ (.int .i64 (n - 1))).setCell ⟨b2, p * 2, none⟩ (.int .i64 (-1))).cell? ⟨b2, p * 2 + 1, none⟩ = some (.int .i64 (-1)) := (h4.lk_ hp4).2
  have fg_4 := h4.f2 (p * 2 + 1)
  have h5 : CAt (((((w2.setCell ⟨b1, l * 3, none⟩ (.int .i64 (-1))).setCell ⟨b1, l * 3 + 1, none⟩ (.int .i64 (-1))).setCell ⟨b1, l * 3 + 2, none⟩ (.int .i64 (n - 1))).setCell ⟨b2, p * 2, none⟩ (.int .i64 (-1))).setCell ⟨b2, p * 2 + 1, none⟩ (.int .i64 (-1))) pb b1 b2 (ln.set l ⟨(-1), (-1), (n - 1)⟩) (lk.set p ⟨(-1), (-1)⟩) := by
    have := h4.setNext hp4 (-1)
    rw [List.set_set] at this
    exact this
  have hl5 := hl4
  have hp5 : (lk.set p ⟨(-1), (-1)⟩)[p]? = some ⟨(-1), (-1)⟩ := List.getElem?_set_self (by (try simp only [List.length_set]); exact hltp)
  have HF := Lib.hid h5
  have HT : Hid (Two b1 b2 w (((((w2.setCell ⟨b1, l * 3, none⟩ (.int .i64 (-1))).setCell ⟨b1, l * 3 + 1, none⟩ (.int .i64 (-1))).setCell ⟨b1, l * 3 + 2, none⟩ (.int .i64 (n - 1))).setCell ⟨b2, p * 2, none⟩ (.int .i64 (-1))).setCell ⟨b2, p * 2 + 1, none⟩ (.int .i64 (-1)))) := (Two.setCell (x := ⟨b2, p * 2 + 1, none⟩) (Two.setCell (x := ⟨b2, p * 2, none⟩) (Two.setCell (x := ⟨b1, l * 3 + 2, none⟩) (Two.setCell (x := ⟨b1, l * 3 + 1, none⟩) (Two.setCell (x := ⟨b1, l * 3, none⟩) p1 (.inl rfl) _) (.inl rfl) _) (.inl rfl) _) (.inr rfl) _) (.inr rfl) _)
  clear p1 h0 hl0 hp0 h1 hl1 hp1 h2 hl2 hp2 h3 hl3 hp3 h4 hl4 hp4 h5 hl5 hp5
  go_wp2
  go_ret2
  exact ⟨rfl, HF.out, HT.out⟩
set_option maxRecDepth 100000 in
set_option maxHeartbeats 2000000 in
theorem cut_hm (pb b1 b2 l k p v : Nat) (f la n yl : Int) (ln : List Ln) (lk : List Lk) (w : World) (h : CAt w pb b1 b2 ln lk) (C : Hid (Calls Tryz.prog 143 #[.pointer (some ⟨pb, 0, none⟩), .int .i64 (l : Nat), .int .i64 (k : Nat)] w fun e w' => e = .returned (.tuple #[.int .i64 (p : Nat), .int .i64 (-1), .bool true]) ∧ ∃ m, w' = w.drewN m))
    (hx : ln[l]? = some ⟨f, la, n⟩) (hy : lk[p]? = some ⟨yl, (v : Nat)⟩) (hn0 : 0 < n) (hn1 : n ≤ 65536) (hll : ln.length ≤ 65536) (hll2 : lk.length ≤ 65536) :
    Calls Tryz.prog 169 #[.pointer (some ⟨pb, 0, none⟩), .int .i64 (l : Nat), .int .i64 (k : Nat)] w fun e w' => e = .returned (.tuple #[.int .i64 (p : Nat), .bool true]) ∧ CAt w' pb b1 b2 (ln.set l ⟨(v : Nat), la, n - 1⟩) (lk.set p ⟨-1, -1⟩) ∧ Two b1 b2 w w' := by
  have hlt := lt_of_some hx
  have hltp := lt_of_some hy
  have hwn : IntKind.i64.wrap (n - 1) = n - 1 := IntWalk.i64_in _ (by omega)
  have H := Lib.hid h
  have Hx := Lib.hid hx
  have Hy := Lib.hid hy
  have dv : ((v : Int) == -1) = false := beq_false_of_ne (by omega)
  clear h hx hy
  go_enter Tryz.func169, Tryz.ntmps169
  go_wp2_with fail
  refine C.out.mono ?_
  rintro e w1 ⟨rfl, m, rfl⟩
  clear C
  have c0 := H.out.c0
  have c1 := H.out.c1
  obtain ⟨a0, b0, d0⟩ := H.out.ln_ Hx.out
  obtain ⟨e0, g0⟩ := H.out.lk_ Hy.out
  go_wp2_with fail
  go_quiet (fail)
  try simp only [World.drewN_drewN]
  have h0 := H.out.drewN (m + nq)
  have p1 := (Two.refl b1 b2 w).drewN (m + nq)
  clear H c0 c1 a0 b0 d0 e0 g0
  generalize w.drewN (m + nq) = w2 at h0 p1 ⊢
  have hl0 := Hx.out
  have hp0 := Hy.out
  clear Hx Hy
  have ka_0 : w2.cell? ⟨b1, l * 3, none⟩ = some (.int .i64 f) := (h0.ln_ hl0).1
  have fa_0 := h0.f1 (l * 3)
  have h1 : CAt (w2.setCell ⟨b1, l * 3, none⟩ (.int .i64 (v : Nat))) pb b1 b2 (ln.set l ⟨(v : Nat), la, n⟩) lk := by
    have := h0.setFirst hl0 (v : Nat)
    exact this
  have hl1 : (ln.set l ⟨(v : Nat), la, n⟩)[l]? = some ⟨(v : Nat), la, n⟩ := List.getElem?_set_self hlt
  have hp1 := hp0
  have kd_1 : (w2.setCell ⟨b1, l * 3, none⟩ (.int .i64 (v : Nat))).cell? ⟨b1, l * 3 + 2, none⟩ = some (.int .i64 n) := (h1.ln_ hl1).2.2
  have fd_1 := h1.f1 (l * 3 + 2)
  have h2 : CAt ((w2.setCell ⟨b1, l * 3, none⟩ (.int .i64 (v : Nat))).setCell ⟨b1, l * 3 + 2, none⟩ (.int .i64 (n - 1))) pb b1 b2 (ln.set l ⟨(v : Nat), la, (n - 1)⟩) lk := by
    have := h1.setN hl1 (n - 1)
    rw [List.set_set] at this
    exact this
  have hl2 : (ln.set l ⟨(v : Nat), la, (n - 1)⟩)[l]? = some ⟨(v : Nat), la, (n - 1)⟩ := List.getElem?_set_self hlt
  have hp2 := hp1
  have ke_2 : ((w2.setCell ⟨b1, l * 3, none⟩ (.int .i64 (v : Nat))).setCell ⟨b1, l * 3 + 2, none⟩ (.int .i64 (n - 1))).cell? ⟨b2, p * 2, none⟩ = some (.int .i64 yl) := (h2.lk_ hp2).1
  have fe_2 := h2.f2 (p * 2)
  have c1_2 := h2.c1
  have h3 : CAt (((w2.setCell ⟨b1, l * 3, none⟩ (.int .i64 (v : Nat))).setCell ⟨b1, l * 3 + 2, none⟩ (.int .i64 (n - 1))).setCell ⟨b2, p * 2, none⟩ (.int .i64 (-1))) pb b1 b2 (ln.set l ⟨(v : Nat), la, (n - 1)⟩) (lk.set p ⟨(-1), (v : Nat)⟩) := by
    have := h2.setLine hp2 (-1)
    exact this
  have hl3 := hl2
  have hp3 : (lk.set p ⟨(-1), (v : Nat)⟩)[p]? = some ⟨(-1), (v : Nat)⟩ := List.getElem?_set_self (by (try simp only [List.length_set]); exact hltp)
  have kg_3 : (((w2.setCell ⟨b1, l * 3, none⟩ (.int .i64 (v : Nat))).setCell ⟨b1, l * 3 + 2, none⟩ (.int .i64 (n - 1))).setCell ⟨b2, p * 2, none⟩ (.int .i64 (-1))).cell? ⟨b2, p * 2 + 1, none⟩ = some (.int .i64 (v : Nat)) := (h3.lk_ hp3).2
  have fg_3 := h3.f2 (p * 2 + 1)
  have h4 : CAt ((((w2.setCell ⟨b1, l * 3, none⟩ (.int .i64 (v : Nat))).setCell ⟨b1, l * 3 + 2, none⟩ (.int .i64 (n - 1))).setCell ⟨b2, p * 2, none⟩ (.int .i64 (-1))).setCell ⟨b2, p * 2 + 1, none⟩ (.int .i64 (-1))) pb b1 b2 (ln.set l ⟨(v : Nat), la, (n - 1)⟩) (lk.set p ⟨(-1), (-1)⟩) := by
    have := h3.setNext hp3 (-1)
    rw [List.set_set] at this
    exact this
  have hl4 := hl3
  have hp4 : (lk.set p ⟨(-1), (-1)⟩)[p]? = some ⟨(-1), (-1)⟩ := List.getElem?_set_self (by (try simp only [List.length_set]); exact hltp)
  have HF := Lib.hid h4
  have HT : Hid (Two b1 b2 w ((((w2.setCell ⟨b1, l * 3, none⟩ (.int .i64 (v : Nat))).setCell ⟨b1, l * 3 + 2, none⟩ (.int .i64 (n - 1))).setCell ⟨b2, p * 2, none⟩ (.int .i64 (-1))).setCell ⟨b2, p * 2 + 1, none⟩ (.int .i64 (-1)))) := (Two.setCell (x := ⟨b2, p * 2 + 1, none⟩) (Two.setCell (x := ⟨b2, p * 2, none⟩) (Two.setCell (x := ⟨b1, l * 3 + 2, none⟩) (Two.setCell (x := ⟨b1, l * 3, none⟩) p1 (.inl rfl) _) (.inl rfl) _) (.inr rfl) _) (.inr rfl) _)
  clear p1 h0 hl0 hp0 h1 hl1 hp1 h2 hl2 hp2 h3 hl3 hp3 h4 hl4 hp4
  go_wp2
  go_ret2
  exact ⟨rfl, HF.out, HT.out⟩
set_option maxRecDepth 100000 in
set_option maxHeartbeats 2000000 in
theorem cut_me (pb b1 b2 l k p u : Nat) (f la n yl zl zn : Int) (ln : List Ln) (lk : List Lk) (w : World) (h : CAt w pb b1 b2 ln lk) (C : Hid (Calls Tryz.prog 143 #[.pointer (some ⟨pb, 0, none⟩), .int .i64 (l : Nat), .int .i64 (k : Nat)] w fun e w' => e = .returned (.tuple #[.int .i64 (p : Nat), .int .i64 (u : Nat), .bool true]) ∧ ∃ m, w' = w.drewN m))
    (hx : ln[l]? = some ⟨f, la, n⟩) (hy : lk[p]? = some ⟨yl, (-1)⟩) (hz : lk[u]? = some ⟨zl, zn⟩) (hup : u ≠ p) (hn0 : 0 < n) (hn1 : n ≤ 65536) (hll : ln.length ≤ 65536) (hll2 : lk.length ≤ 65536) :
    Calls Tryz.prog 169 #[.pointer (some ⟨pb, 0, none⟩), .int .i64 (l : Nat), .int .i64 (k : Nat)] w fun e w' => e = .returned (.tuple #[.int .i64 (p : Nat), .bool true]) ∧ CAt w' pb b1 b2 (ln.set l ⟨f, (u : Nat), n - 1⟩) ((lk.set u ⟨zl, (-1)⟩).set p ⟨-1, -1⟩) ∧ Two b1 b2 w w' := by
  have hlt := lt_of_some hx
  have hltp := lt_of_some hy
  have hwn : IntKind.i64.wrap (n - 1) = n - 1 := IntWalk.i64_in _ (by omega)
  have H := Lib.hid h
  have Hx := Lib.hid hx
  have Hy := Lib.hid hy
  have hltu := lt_of_some hz
  have Hz := Lib.hid hz
  have du : ((u : Int) == -1) = false := beq_false_of_ne (by omega)
  clear h hx hy hz
  go_enter Tryz.func169, Tryz.ntmps169
  go_wp2_with fail
  refine C.out.mono ?_
  rintro e w1 ⟨rfl, m, rfl⟩
  clear C
  have c0 := H.out.c0
  have c1 := H.out.c1
  obtain ⟨a0, b0, d0⟩ := H.out.ln_ Hx.out
  obtain ⟨e0, g0⟩ := H.out.lk_ Hy.out
  go_wp2_with fail
  go_quiet (fail)
  try simp only [World.drewN_drewN]
  have h0 := H.out.drewN (m + nq)
  have p1 := (Two.refl b1 b2 w).drewN (m + nq)
  clear H c0 c1 a0 b0 d0 e0 g0
  generalize w.drewN (m + nq) = w2 at h0 p1 ⊢
  have hl0 := Hx.out
  have hp0 := Hy.out
  have hu0 := Hz.out
  clear Hx Hy Hz
  have kg_0 : w2.cell? ⟨b2, u * 2 + 1, none⟩ = some (.int .i64 zn) := (h0.lk_ hu0).2
  have fg_0 := h0.f2 (u * 2 + 1)
  have c1_0 := h0.c1
  have h1 : CAt (w2.setCell ⟨b2, u * 2 + 1, none⟩ (.int .i64 (-1))) pb b1 b2 ln (lk.set u ⟨zl, (-1)⟩) := by
    have := h0.setNext hu0 (-1)
    exact this
  have hl1 := hl0
  have hp1 : (lk.set u ⟨zl, (-1)⟩)[p]? = some ⟨yl, (-1)⟩ := by
    rw [List.getElem?_set_ne (by omega)]
    have := hp0
    exact this
  have hu1 : (lk.set u ⟨zl, (-1)⟩)[u]? = some ⟨zl, (-1)⟩ := List.getElem?_set_self (by (try simp only [List.length_set]); exact hltu)
  have kb_1 : (w2.setCell ⟨b2, u * 2 + 1, none⟩ (.int .i64 (-1))).cell? ⟨b1, l * 3 + 1, none⟩ = some (.int .i64 la) := (h1.ln_ hl1).2.1
  have fb_1 := h1.f1 (l * 3 + 1)
  have h2 : CAt ((w2.setCell ⟨b2, u * 2 + 1, none⟩ (.int .i64 (-1))).setCell ⟨b1, l * 3 + 1, none⟩ (.int .i64 (u : Nat))) pb b1 b2 (ln.set l ⟨f, (u : Nat), n⟩) (lk.set u ⟨zl, (-1)⟩) := by
    have := h1.setLast hl1 (u : Nat)
    exact this
  have hl2 : (ln.set l ⟨f, (u : Nat), n⟩)[l]? = some ⟨f, (u : Nat), n⟩ := List.getElem?_set_self hlt
  have hp2 := hp1
  have hu2 := hu1
  have kd_2 : ((w2.setCell ⟨b2, u * 2 + 1, none⟩ (.int .i64 (-1))).setCell ⟨b1, l * 3 + 1, none⟩ (.int .i64 (u : Nat))).cell? ⟨b1, l * 3 + 2, none⟩ = some (.int .i64 n) := (h2.ln_ hl2).2.2
  have fd_2 := h2.f1 (l * 3 + 2)
  have h3 : CAt (((w2.setCell ⟨b2, u * 2 + 1, none⟩ (.int .i64 (-1))).setCell ⟨b1, l * 3 + 1, none⟩ (.int .i64 (u : Nat))).setCell ⟨b1, l * 3 + 2, none⟩ (.int .i64 (n - 1))) pb b1 b2 (ln.set l ⟨f, (u : Nat), (n - 1)⟩) (lk.set u ⟨zl, (-1)⟩) := by
    have := h2.setN hl2 (n - 1)
    rw [List.set_set] at this
    exact this
  have hl3 : (ln.set l ⟨f, (u : Nat), (n - 1)⟩)[l]? = some ⟨f, (u : Nat), (n - 1)⟩ := List.getElem?_set_self hlt
  have hp3 := hp2
  have hu3 := hu2
  have ke_3 : (((w2.setCell ⟨b2, u * 2 + 1, none⟩ (.int .i64 (-1))).setCell ⟨b1, l * 3 + 1, none⟩ (.int .i64 (u : Nat))).setCell ⟨b1, l * 3 + 2, none⟩ (.int .i64 (n - 1))).cell? ⟨b2, p * 2, none⟩ = some (.int .i64 yl) := (h3.lk_ hp3).1
  have fe_3 := h3.f2 (p * 2)
  have c1_3 := h3.c1
  simp only [List.length_set] at c1_3
  have h4 : CAt ((((w2.setCell ⟨b2, u * 2 + 1, none⟩ (.int .i64 (-1))).setCell ⟨b1, l * 3 + 1, none⟩ (.int .i64 (u : Nat))).setCell ⟨b1, l * 3 + 2, none⟩ (.int .i64 (n - 1))).setCell ⟨b2, p * 2, none⟩ (.int .i64 (-1))) pb b1 b2 (ln.set l ⟨f, (u : Nat), (n - 1)⟩) ((lk.set u ⟨zl, (-1)⟩).set p ⟨(-1), (-1)⟩) := by
    have := h3.setLine hp3 (-1)
    exact this
  have hl4 := hl3
  have hp4 : ((lk.set u ⟨zl, (-1)⟩).set p ⟨(-1), (-1)⟩)[p]? = some ⟨(-1), (-1)⟩ := List.getElem?_set_self (by (try simp only [List.length_set]); exact hltp)
  have hu4 : ((lk.set u ⟨zl, (-1)⟩).set p ⟨(-1), (-1)⟩)[u]? = some ⟨zl, (-1)⟩ := by
    rw [List.getElem?_set_ne (by omega)]
    have := hu3
    exact this
  have kg_4 : ((((w2.setCell ⟨b2, u * 2 + 1, none⟩ (.int .i64 (-1))).setCell ⟨b1, l * 3 + 1, none⟩ (.int .i64 (u : Nat))).setCell ⟨b1, l * 3 + 2, none⟩ (.int .i64 (n - 1))).setCell ⟨b2, p * 2, none⟩ (.int .i64 (-1))).cell? ⟨b2, p * 2 + 1, none⟩ = some (.int .i64 (-1)) := (h4.lk_ hp4).2
  have fg_4 := h4.f2 (p * 2 + 1)
  have h5 : CAt (((((w2.setCell ⟨b2, u * 2 + 1, none⟩ (.int .i64 (-1))).setCell ⟨b1, l * 3 + 1, none⟩ (.int .i64 (u : Nat))).setCell ⟨b1, l * 3 + 2, none⟩ (.int .i64 (n - 1))).setCell ⟨b2, p * 2, none⟩ (.int .i64 (-1))).setCell ⟨b2, p * 2 + 1, none⟩ (.int .i64 (-1))) pb b1 b2 (ln.set l ⟨f, (u : Nat), (n - 1)⟩) ((lk.set u ⟨zl, (-1)⟩).set p ⟨(-1), (-1)⟩) := by
    have := h4.setNext hp4 (-1)
    rw [List.set_set] at this
    exact this
  have hl5 := hl4
  have hp5 : ((lk.set u ⟨zl, (-1)⟩).set p ⟨(-1), (-1)⟩)[p]? = some ⟨(-1), (-1)⟩ := List.getElem?_set_self (by (try simp only [List.length_set]); exact hltp)
  have hu5 : ((lk.set u ⟨zl, (-1)⟩).set p ⟨(-1), (-1)⟩)[u]? = some ⟨zl, (-1)⟩ := by
    rw [List.getElem?_set_ne (by omega)]
    have := hu4
    rw [List.getElem?_set_ne (by omega)] at this
    exact this
  have HF := Lib.hid h5
  have HT : Hid (Two b1 b2 w (((((w2.setCell ⟨b2, u * 2 + 1, none⟩ (.int .i64 (-1))).setCell ⟨b1, l * 3 + 1, none⟩ (.int .i64 (u : Nat))).setCell ⟨b1, l * 3 + 2, none⟩ (.int .i64 (n - 1))).setCell ⟨b2, p * 2, none⟩ (.int .i64 (-1))).setCell ⟨b2, p * 2 + 1, none⟩ (.int .i64 (-1)))) := (Two.setCell (x := ⟨b2, p * 2 + 1, none⟩) (Two.setCell (x := ⟨b2, p * 2, none⟩) (Two.setCell (x := ⟨b1, l * 3 + 2, none⟩) (Two.setCell (x := ⟨b1, l * 3 + 1, none⟩) (Two.setCell (x := ⟨b2, u * 2 + 1, none⟩) p1 (.inr rfl) _) (.inl rfl) _) (.inl rfl) _) (.inr rfl) _) (.inr rfl) _)
  clear p1 h0 hl0 hp0 hu0 h1 hl1 hp1 hu1 h2 hl2 hp2 hu2 h3 hl3 hp3 hu3 h4 hl4 hp4 hu4 h5 hl5 hp5 hu5
  go_wp2
  go_ret2
  exact ⟨rfl, HF.out, HT.out⟩
set_option maxRecDepth 100000 in
set_option maxHeartbeats 2000000 in
theorem cut_mm (pb b1 b2 l k p u v : Nat) (f la n yl zl zn : Int) (ln : List Ln) (lk : List Lk) (w : World) (h : CAt w pb b1 b2 ln lk) (C : Hid (Calls Tryz.prog 143 #[.pointer (some ⟨pb, 0, none⟩), .int .i64 (l : Nat), .int .i64 (k : Nat)] w fun e w' => e = .returned (.tuple #[.int .i64 (p : Nat), .int .i64 (u : Nat), .bool true]) ∧ ∃ m, w' = w.drewN m))
    (hx : ln[l]? = some ⟨f, la, n⟩) (hy : lk[p]? = some ⟨yl, (v : Nat)⟩) (hz : lk[u]? = some ⟨zl, zn⟩) (hup : u ≠ p) (hn0 : 0 < n) (hn1 : n ≤ 65536) (hll : ln.length ≤ 65536) (hll2 : lk.length ≤ 65536) :
    Calls Tryz.prog 169 #[.pointer (some ⟨pb, 0, none⟩), .int .i64 (l : Nat), .int .i64 (k : Nat)] w fun e w' => e = .returned (.tuple #[.int .i64 (p : Nat), .bool true]) ∧ CAt w' pb b1 b2 (ln.set l ⟨f, la, n - 1⟩) ((lk.set u ⟨zl, (v : Nat)⟩).set p ⟨-1, -1⟩) ∧ Two b1 b2 w w' := by
  have hlt := lt_of_some hx
  have hltp := lt_of_some hy
  have hwn : IntKind.i64.wrap (n - 1) = n - 1 := IntWalk.i64_in _ (by omega)
  have H := Lib.hid h
  have Hx := Lib.hid hx
  have Hy := Lib.hid hy
  have hltu := lt_of_some hz
  have Hz := Lib.hid hz
  have du : ((u : Int) == -1) = false := beq_false_of_ne (by omega)
  have dv : ((v : Int) == -1) = false := beq_false_of_ne (by omega)
  clear h hx hy hz
  go_enter Tryz.func169, Tryz.ntmps169
  go_wp2_with fail
  refine C.out.mono ?_
  rintro e w1 ⟨rfl, m, rfl⟩
  clear C
  have c0 := H.out.c0
  have c1 := H.out.c1
  obtain ⟨a0, b0, d0⟩ := H.out.ln_ Hx.out
  obtain ⟨e0, g0⟩ := H.out.lk_ Hy.out
  go_wp2_with fail
  go_quiet (fail)
  try simp only [World.drewN_drewN]
  have h0 := H.out.drewN (m + nq)
  have p1 := (Two.refl b1 b2 w).drewN (m + nq)
  clear H c0 c1 a0 b0 d0 e0 g0
  generalize w.drewN (m + nq) = w2 at h0 p1 ⊢
  have hl0 := Hx.out
  have hp0 := Hy.out
  have hu0 := Hz.out
  clear Hx Hy Hz
  have kg_0 : w2.cell? ⟨b2, u * 2 + 1, none⟩ = some (.int .i64 zn) := (h0.lk_ hu0).2
  have fg_0 := h0.f2 (u * 2 + 1)
  have c1_0 := h0.c1
  have h1 : CAt (w2.setCell ⟨b2, u * 2 + 1, none⟩ (.int .i64 (v : Nat))) pb b1 b2 ln (lk.set u ⟨zl, (v : Nat)⟩) := by
    have := h0.setNext hu0 (v : Nat)
    exact this
  have hl1 := hl0
  have hp1 : (lk.set u ⟨zl, (v : Nat)⟩)[p]? = some ⟨yl, (v : Nat)⟩ := by
    rw [List.getElem?_set_ne (by omega)]
    have := hp0
    exact this
  have hu1 : (lk.set u ⟨zl, (v : Nat)⟩)[u]? = some ⟨zl, (v : Nat)⟩ := List.getElem?_set_self (by (try simp only [List.length_set]); exact hltu)
  have kd_1 : (w2.setCell ⟨b2, u * 2 + 1, none⟩ (.int .i64 (v : Nat))).cell? ⟨b1, l * 3 + 2, none⟩ = some (.int .i64 n) := (h1.ln_ hl1).2.2
  have fd_1 := h1.f1 (l * 3 + 2)
  have h2 : CAt ((w2.setCell ⟨b2, u * 2 + 1, none⟩ (.int .i64 (v : Nat))).setCell ⟨b1, l * 3 + 2, none⟩ (.int .i64 (n - 1))) pb b1 b2 (ln.set l ⟨f, la, (n - 1)⟩) (lk.set u ⟨zl, (v : Nat)⟩) := by
    have := h1.setN hl1 (n - 1)
    exact this
  have hl2 : (ln.set l ⟨f, la, (n - 1)⟩)[l]? = some ⟨f, la, (n - 1)⟩ := List.getElem?_set_self hlt
  have hp2 := hp1
  have hu2 := hu1
  have ke_2 : ((w2.setCell ⟨b2, u * 2 + 1, none⟩ (.int .i64 (v : Nat))).setCell ⟨b1, l * 3 + 2, none⟩ (.int .i64 (n - 1))).cell? ⟨b2, p * 2, none⟩ = some (.int .i64 yl) := (h2.lk_ hp2).1
  have fe_2 := h2.f2 (p * 2)
  have c1_2 := h2.c1
  simp only [List.length_set] at c1_2
  have h3 : CAt (((w2.setCell ⟨b2, u * 2 + 1, none⟩ (.int .i64 (v : Nat))).setCell ⟨b1, l * 3 + 2, none⟩ (.int .i64 (n - 1))).setCell ⟨b2, p * 2, none⟩ (.int .i64 (-1))) pb b1 b2 (ln.set l ⟨f, la, (n - 1)⟩) ((lk.set u ⟨zl, (v : Nat)⟩).set p ⟨(-1), (v : Nat)⟩) := by
    have := h2.setLine hp2 (-1)
    exact this
  have hl3 := hl2
  have hp3 : ((lk.set u ⟨zl, (v : Nat)⟩).set p ⟨(-1), (v : Nat)⟩)[p]? = some ⟨(-1), (v : Nat)⟩ := List.getElem?_set_self (by (try simp only [List.length_set]); exact hltp)
  have hu3 : ((lk.set u ⟨zl, (v : Nat)⟩).set p ⟨(-1), (v : Nat)⟩)[u]? = some ⟨zl, (v : Nat)⟩ := by
    rw [List.getElem?_set_ne (by omega)]
    have := hu2
    exact this
  have kg_3 : (((w2.setCell ⟨b2, u * 2 + 1, none⟩ (.int .i64 (v : Nat))).setCell ⟨b1, l * 3 + 2, none⟩ (.int .i64 (n - 1))).setCell ⟨b2, p * 2, none⟩ (.int .i64 (-1))).cell? ⟨b2, p * 2 + 1, none⟩ = some (.int .i64 (v : Nat)) := (h3.lk_ hp3).2
  have fg_3 := h3.f2 (p * 2 + 1)
  have h4 : CAt ((((w2.setCell ⟨b2, u * 2 + 1, none⟩ (.int .i64 (v : Nat))).setCell ⟨b1, l * 3 + 2, none⟩ (.int .i64 (n - 1))).setCell ⟨b2, p * 2, none⟩ (.int .i64 (-1))).setCell ⟨b2, p * 2 + 1, none⟩ (.int .i64 (-1))) pb b1 b2 (ln.set l ⟨f, la, (n - 1)⟩) ((lk.set u ⟨zl, (v : Nat)⟩).set p ⟨(-1), (-1)⟩) := by
    have := h3.setNext hp3 (-1)
    rw [List.set_set] at this
    exact this
  have hl4 := hl3
  have hp4 : ((lk.set u ⟨zl, (v : Nat)⟩).set p ⟨(-1), (-1)⟩)[p]? = some ⟨(-1), (-1)⟩ := List.getElem?_set_self (by (try simp only [List.length_set]); exact hltp)
  have hu4 : ((lk.set u ⟨zl, (v : Nat)⟩).set p ⟨(-1), (-1)⟩)[u]? = some ⟨zl, (v : Nat)⟩ := by
    rw [List.getElem?_set_ne (by omega)]
    have := hu3
    rw [List.getElem?_set_ne (by omega)] at this
    exact this
  have HF := Lib.hid h4
  have HT : Hid (Two b1 b2 w ((((w2.setCell ⟨b2, u * 2 + 1, none⟩ (.int .i64 (v : Nat))).setCell ⟨b1, l * 3 + 2, none⟩ (.int .i64 (n - 1))).setCell ⟨b2, p * 2, none⟩ (.int .i64 (-1))).setCell ⟨b2, p * 2 + 1, none⟩ (.int .i64 (-1)))) := (Two.setCell (x := ⟨b2, p * 2 + 1, none⟩) (Two.setCell (x := ⟨b2, p * 2, none⟩) (Two.setCell (x := ⟨b1, l * 3 + 2, none⟩) (Two.setCell (x := ⟨b2, u * 2 + 1, none⟩) p1 (.inr rfl) _) (.inl rfl) _) (.inr rfl) _) (.inr rfl) _)
  clear p1 h0 hl0 hp0 hu0 h1 hl1 hp1 hu1 h2 hl2 hp2 hu2 h3 hl3 hp3 hu3 h4 hl4 hp4 hu4
  go_wp2
  go_ret2
  exact ⟨rfl, HF.out, HT.out⟩
end Go.Proofs.YtpanmfdbdgecaaaGreat.C.CH
