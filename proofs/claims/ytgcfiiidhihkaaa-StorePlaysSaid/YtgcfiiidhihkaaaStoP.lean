/- Stores, plain: places with packets, lines of places, lists of packets. No program in sight. -/
import Derived.Test.YtgcfiiidhihkaaaPkN
namespace Go.Proofs.Ytgcfiiidhihkaaa.C
set_option linter.unusedVariables false
/-- A packet's length. -/
def lenP (x : Array Value) : Int := match (x[45]? : Option Value) with | some (Value.int .i64 n) => n | _ => 0
def sumL (l : List (Array Value)) : Int := (l.map lenP).sum
def total {α : Type} (L : List (List α)) : Nat := (L.map List.length).sum
/-- A packet whose last cell is its length. -/
structure PkL (x : Array Value) (n : Int) : Prop where
  pk : Pk x
  len : x[45]? = some (.int .i64 n)
theorem PkL.lenP {x : Array Value} {n : Int} (h : PkL x n) : lenP x = n := by
  unfold C.lenP
  rw [h.len]
theorem total_set {α : Type} : ∀ (L : List (List α)) (c : Nat) (l l' : List α), L[c]? = some l → total (L.set c l') + l.length = total L + l'.length
  | [], c, l, l', h => by simp at h
  | m :: r, 0, l, l', h => by
    simp at h
    subst h
    simp [total]
    omega
  | m :: r, c + 1, l, l', h => by
    have := total_set r c l l' (by simpa using h)
    simp [total] at this ⊢
    omega
theorem total_le {α : Type} : ∀ (L : List (List α)) (l : List α), l ∈ L → l.length ≤ total L
  | [], l, h => by simp at h
  | m :: r, l, h => by
    rcases List.mem_cons.1 h with rfl | h
    · simp [total]
    · have := total_le r l h
      simp [total] at this ⊢
      omega
theorem sumL_append (l : List (Array Value)) (x : Array Value) : sumL (l ++ [x]) = sumL l + lenP x := by simp [sumL]
theorem sumL_erase : ∀ (l : List (Array Value)) (k : Nat) (x : Array Value), l[k]? = some x → sumL (l.eraseIdx k) = sumL l - lenP x
  | [], k, x, h => by simp at h
  | y :: r, 0, x, h => by
    simp at h
    subst h
    simp [sumL]
    omega
  | y :: r, k + 1, x, h => by
    have := sumL_erase r k x (by simpa using h)
    simp [sumL] at this ⊢
    omega
theorem sumL_bound (l : List (Array Value)) (h : ∀ x ∈ l, 1 ≤ lenP x ∧ lenP x ≤ 9216) : 0 ≤ sumL l ∧ sumL l ≤ 9216 * l.length := by
  induction l with
  | nil => simp [sumL]
  | cons y r ih =>
    have h1 := h y (by simp)
    have h2 := ih fun x hx => h x (by simp [hx])
    simp [sumL] at h2 ⊢
    omega
/-- The places, the lines of places and the lists of packets belong together. -/
structure Linked (A : List (Option (Array Value))) (Q : List (List Nat)) (L : List (List (Array Value))) (fl : List Nat) (R : Nat) : Prop where
  lenQ : Q.length = L.length
  lenA : A.length = R
  link : ∀ (c : Nat) (q : List Nat), Q[c]? = some q → ∃ l, L[c]? = some l ∧ q.map (fun p => (A[p]?).join) = l.map some
  ok : ∀ l ∈ L, ∀ x ∈ l, 1 ≤ lenP x ∧ lenP x ≤ 9216
  cnt : fl.length + total L = R
variable {A : List (Option (Array Value))} {Q : List (List Nat)} {L : List (List (Array Value))} {fl : List Nat} {R : Nat}
theorem Linked.new (n R : Nat) : Linked (List.replicate R none) (List.replicate n []) (List.replicate n []) (List.range' 0 R) R := by
  refine ⟨by simp, by simp, fun c q hq => ?_, fun l hl => ?_, ?_⟩
  · rw [List.getElem?_replicate] at hq
    split at hq
    · injection hq with hq
      subst hq
      exact ⟨[], by rw [List.getElem?_replicate, if_pos (by assumption)], rfl⟩
    · cases hq
  · obtain rfl := (List.mem_replicate.1 hl).2
    simp
  · have : total (List.replicate n ([] : List (Array Value))) = 0 := by
      simp [total]
    rw [this]
    simp
/-- What the k-th place of a line has. -/
theorem Linked.at_ (h : Linked A Q L fl R) {c k p : Nat} {q : List Nat} (hq : Q[c]? = some q) (hp : q[k]? = some p) : ∃ l x, L[c]? = some l ∧ l[k]? = some x ∧ A[p]? = some (some x) := by
  obtain ⟨l, hl, e⟩ := h.link c q hq
  have h1 : (q.map (fun p => (A[p]?).join))[k]? = some ((A[p]?).join) := by simp [hp]
  rw [e, List.getElem?_map] at h1
  cases hx : l[k]? with
  | none => rw [hx] at h1; cases h1
  | some x =>
    rw [hx] at h1
    injection h1 with h1
    refine ⟨l, x, hl, hx, ?_⟩
    cases ha : A[p]? with
    | none => rw [ha] at h1; cases h1
    | some o =>
      rw [ha] at h1
      have h1 : some x = o := h1
      rw [← h1]
theorem Linked.line (h : Linked A Q L fl R) {c : Nat} {l : List (Array Value)} (hl : L[c]? = some l) : ∃ q, Q[c]? = some q ∧ q.length = l.length := by
  have hc : c < Q.length := by rw [h.lenQ]; exact lt_of_some hl
  obtain ⟨l', hl', e⟩ := h.link c _ (List.getElem?_eq_getElem hc)
  rw [hl] at hl'
  injection hl' with hl'
  subst hl'
  refine ⟨_, List.getElem?_eq_getElem hc, ?_⟩
  have := congrArg List.length e
  simpa using this
/-- A free place is in no line. -/
theorem Linked.free (h : Linked A Q L fl R) {i : Nat} (hi : A[i]? = some none) {c : Nat} {q : List Nat} (hq : Q[c]? = some q) : i ∉ q := by
  intro hm
  obtain ⟨k, hk⟩ := List.getElem?_of_mem hm
  obtain ⟨_, x, _, _, hx⟩ := h.at_ hq hk
  rw [hi] at hx
  cases hx
theorem Linked.push {i : Nat} {r : List Nat} (h : Linked A Q L (i :: r) R) (hi : A[i]? = some none) {c : Nat} {q : List Nat} {l : List (Array Value)} (hq : Q[c]? = some q) (hl : L[c]? = some l) {x : Array Value} (hx : 1 ≤ lenP x ∧ lenP x ≤ 9216) :
    Linked (A.set i (some x)) (Q.set c (q ++ [i])) (L.set c (l ++ [x])) r R := by
  have hc := lt_of_some hq
  have hcl := lt_of_some hl
  have key : ∀ (c' : Nat) (q' : List Nat), Q[c']? = some q' → q'.map (fun p => ((A.set i (some x))[p]?).join) = q'.map (fun p => (A[p]?).join) := by
    intro c' q' hq'
    apply List.map_congr_left
    intro p hp
    have : i ≠ p := fun e => h.free hi hq' (e ▸ hp)
    rw [List.getElem?_set_ne this]
  refine ⟨by simpa using h.lenQ, by simpa using h.lenA, fun c' q' hq' => ?_, fun l' hl' y hy => ?_, ?_⟩
  · rcases get_set hq' with ⟨rfl, rfl⟩ | ⟨hne, hq'⟩
    · refine ⟨l ++ [x], List.getElem?_set_self hcl, ?_⟩
      obtain ⟨l2, hl2, e⟩ := h.link c' q hq
      rw [hl] at hl2
      injection hl2 with hl2
      subst hl2
      rw [List.map_append, List.map_append, key c' q hq, e]
      simp [List.getElem?_set_self (lt_of_some hi)]
    · obtain ⟨l2, hl2, e⟩ := h.link c' q' hq'
      exact ⟨l2, by rw [List.getElem?_set_ne (fun e => hne e.symm)]; exact hl2, by rw [key c' q' hq', e]⟩
  · rcases List.mem_or_eq_of_mem_set hl' with hl' | rfl
    · exact h.ok l' hl' y hy
    · rcases List.mem_append.1 hy with hy | hy
      · exact h.ok l (List.mem_of_getElem? hl) y hy
      · obtain rfl := List.mem_singleton.1 hy
        exact hx
  · have h1 := total_set L c l (l ++ [x]) hl
    have h2 := h.cnt
    simp only [List.length_append, List.length_cons, List.length_nil] at h1 h2
    omega
theorem Linked.cut (h : Linked A Q L fl R) {c k p : Nat} {q : List Nat} {l : List (Array Value)} (hq : Q[c]? = some q) (hp : q[k]? = some p) (hl : L[c]? = some l) (hn : q.Nodup) (hd : ∀ (c' : Nat) (q' : List Nat), Q[c']? = some q' → p ∈ q' → c' = c) :
    Linked (A.set p none) (Q.set c (q.eraseIdx k)) (L.set c (l.eraseIdx k)) (p :: fl) R := by
  have hc := lt_of_some hq
  have hcl := lt_of_some hl
  have hpe : p ∉ q.eraseIdx k := by
    intro hm
    have hk := lt_of_some hp
    rw [List.getElem?_eq_getElem hk] at hp
    injection hp with hp
    obtain ⟨i, hi, e⟩ := List.mem_iff_getElem.1 hm
    rw [List.getElem_eraseIdx] at e
    rw [List.length_eraseIdx_of_lt hk] at hi
    have hne := List.pairwise_iff_getElem.1 hn
    split at e
    · exact hne i k (by omega) hk (by omega) (e.trans hp.symm)
    · exact hne k (i + 1) hk (by omega) (by omega) (hp.trans e.symm)
  refine ⟨by simpa using h.lenQ, by simpa using h.lenA, fun c' q' hq' => ?_, fun l' hl' y hy => ?_, ?_⟩
  · rcases get_set hq' with ⟨rfl, rfl⟩ | ⟨hne, hq'⟩
    · refine ⟨l.eraseIdx k, List.getElem?_set_self hcl, ?_⟩
      obtain ⟨l2, hl2, e⟩ := h.link c' q hq
      rw [hl] at hl2
      injection hl2 with hl2
      subst hl2
      have : (q.eraseIdx k).map (fun p' => ((A.set p none)[p']?).join) = (q.eraseIdx k).map (fun p' => (A[p']?).join) := by
        apply List.map_congr_left
        intro p' hp'
        have : p ≠ p' := fun e => hpe (e ▸ hp')
        rw [List.getElem?_set_ne this]
      rw [this, List.eraseIdx_eq_take_drop_succ, List.eraseIdx_eq_take_drop_succ, List.map_append, List.map_append, List.map_take, List.map_take, List.map_drop, List.map_drop, e]
    · obtain ⟨l2, hl2, e⟩ := h.link c' q' hq'
      refine ⟨l2, by rw [List.getElem?_set_ne (fun e => hne e.symm)]; exact hl2, ?_⟩
      rw [← e]
      apply List.map_congr_left
      intro p' hp'
      have : p ≠ p' := fun e => hne (hd c' q' hq' (e ▸ hp'))
      rw [List.getElem?_set_ne this]
  · rcases List.mem_or_eq_of_mem_set hl' with hl' | rfl
    · exact h.ok l' hl' y hy
    · exact h.ok l (List.mem_of_getElem? hl) y (List.mem_of_mem_eraseIdx hy)
  · obtain ⟨l2, x, hl2, hx, _⟩ := h.at_ hq hp
    rw [hl] at hl2
    injection hl2 with hl2
    subst hl2
    have h1 := total_set L c l (l.eraseIdx k) hl
    have h2 := h.cnt
    have h3 := List.length_eraseIdx_of_lt (lt_of_some hx)
    have h4 := lt_of_some hx
    have h5 := total_le L l (List.mem_of_getElem? hl)
    simp only [List.length_cons]
    omega
/-- The row of the classes' bytes. -/
def bytesV (L : List (List (Array Value))) : List Value := L.map fun l => Value.int .i64 (sumL l)
theorem bytesV_set (L : List (List (Array Value))) (c : Nat) (l : List (Array Value)) : bytesV (L.set c l) = (bytesV L).set c (.int .i64 (sumL l)) := by simp [bytesV, List.map_set]
theorem bytesV_at {L : List (List (Array Value))} {c : Nat} {l : List (Array Value)} (h : L[c]? = some l) : (bytesV L)[c]? = some (.int .i64 (sumL l)) := by simp [bytesV, h]
end Go.Proofs.Ytgcfiiidhihkaaa.C
