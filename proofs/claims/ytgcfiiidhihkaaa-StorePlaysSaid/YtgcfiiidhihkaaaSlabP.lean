/- Slabs, plain: places, the list of the free ones. No program in sight. -/
namespace Go.Proofs.Ytgcfiiidhihkaaa.C

/-- A place: what it has, whether it is taken, the next free one. -/
structure Place (X : Type) where
  x : X
  taken : Bool
  next : Int
variable {X : Type}
theorem lt_of_some {α : Type} {l : List α} {i : Nat} {p : α} (h : l[i]? = some p) : i < l.length := by
  rcases Nat.lt_or_ge i l.length with h' | h'
  · exact h'
  · rw [List.getElem?_eq_none h'] at h; cases h
/-- Does place i have something? -/
def hasP (l : List (Place X)) (i : Int) : Bool := decide (0 ≤ i) && (match l[i.toNat]? with | some p => p.taken | none => false)
theorem hasP_out {l : List (Place X)} {i : Int} (h : i < 0 ∨ (l.length : Int) ≤ i) : hasP l i = false := by
  unfold hasP
  rcases h with h | h
  · rw [decide_eq_false (by omega)]; rfl
  · rw [List.getElem?_eq_none (by omega)]; simp
theorem hasP_in {l : List (Place X)} {i : Nat} {p : Place X} (h : l[i]? = some p) : hasP l (i : Int) = p.taken := by
  unfold hasP
  simp [h]

/-- The free places, one behind the other. -/
def ChainFrom (l : List (Place X)) : Int → List Nat → Prop
  | f, [] => f < 0
  | f, i :: r => f = (i : Int) ∧ ∃ p, l[i]? = some p ∧ ChainFrom l p.next r
/-- A slab's places, its first free one, how many are free, and which. -/
structure SInv (l : List (Place X)) (first free : Int) (fl : List Nat) : Prop where
  chain : ChainFrom l first fl
  nodup : fl.Nodup
  is : ∀ (i : Nat) (p : Place X), l[i]? = some p → (i ∈ fl ↔ p.taken = false)
  free : free = fl.length
theorem ChainFrom.mem {l : List (Place X)} : ∀ {fl : List Nat} {f : Int}, ChainFrom l f fl → ∀ i ∈ fl, i < l.length
  | _ :: _, _, ⟨_, p, hp, hr⟩, i, hi => by
    rcases List.mem_cons.1 hi with rfl | hi
    · exact lt_of_some hp
    · exact hr.mem i hi
theorem ChainFrom.set {l : List (Place X)} {i : Nat} {q : Place X} : ∀ {fl : List Nat} {f : Int}, ChainFrom l f fl → i ∉ fl → ChainFrom (l.set i q) f fl
  | [], _, h, _ => h
  | j :: r, f, ⟨h1, p, hp, hr⟩, hi => by
    have hij : i ≠ j := fun e => hi (by simp [e])
    exact ⟨h1, p, by rw [List.getElem?_set_ne hij]; exact hp, hr.set fun h => hi (by simp [h])⟩
theorem get_set {α : Type} {l : List α} {i j : Nat} {q p : α} (h : (l.set i q)[j]? = some p) : (j = i ∧ p = q) ∨ (j ≠ i ∧ l[j]? = some p) := by
  by_cases e : i = j
  · subst e
    have hl := lt_of_some h
    rw [List.length_set] at hl
    rw [List.getElem?_set_self hl] at h
    exact .inl ⟨rfl, by injection h with h; exact h.symm⟩
  · rw [List.getElem?_set_ne e] at h
    exact .inr ⟨fun h' => e h'.symm, h⟩
theorem SInv.first_neg {l : List (Place X)} {first free : Int} (h : SInv l first free []) : first < 0 := h.chain
theorem SInv.head {l : List (Place X)} {first free : Int} {i : Nat} {r : List Nat} (h : SInv l first free (i :: r)) : first = i ∧ ∃ p, l[i]? = some p ∧ p.taken = false := by
  obtain ⟨h1, p, hp, _⟩ := h.chain
  exact ⟨h1, p, hp, (h.is i p hp).1 (by simp)⟩
theorem SInv.take {l : List (Place X)} {first free : Int} {i : Nat} {r : List Nat} (h : SInv l first free (i :: r)) {p : Place X} (hp : l[i]? = some p) (x : X) : SInv (l.set i ⟨x, true, 0⟩) p.next (free - 1) r := by
  obtain ⟨h1, q, hq, hc⟩ := h.chain
  rw [hp] at hq
  injection hq with hq
  subst hq
  have hn := List.nodup_cons.1 h.nodup
  refine ⟨hc.set hn.1, hn.2, fun j q hj => ?_, by have := h.free; simp at this; omega⟩
  rcases get_set hj with ⟨rfl, rfl⟩ | ⟨hne, hj⟩
  · simp [hn.1]
  · rw [← h.is j q hj]
    simp [hne]
theorem SInv.give {l : List (Place X)} {first free : Int} {fl : List Nat} (h : SInv l first free fl) {i : Nat} {p : Place X} (hp : l[i]? = some p) (ht : p.taken = true) (z : X) : SInv (l.set i ⟨z, false, first⟩) i (free + 1) (i :: fl) := by
  have hni : i ∉ fl := fun hm => by have := (h.is i p hp).1 hm; rw [ht] at this; cases this
  refine ⟨⟨rfl, _, List.getElem?_set_self (lt_of_some hp), h.chain.set hni⟩, List.nodup_cons.2 ⟨hni, h.nodup⟩, fun j q hj => ?_, by have := h.free; simp; omega⟩
  rcases get_set hj with ⟨rfl, rfl⟩ | ⟨hne, hj⟩
  · simp
  · rw [← h.is j q hj]
    simp [hne]
theorem ChainFrom.setX {l : List (Place X)} {i : Nat} {q : Place X} (hq : l[i]? = some q) (x : X) : ∀ {fl : List Nat} {f : Int}, ChainFrom l f fl → ChainFrom (l.set i { q with x := x }) f fl
  | [], _, h => h
  | j :: r, f, ⟨h1, p, hp, hr⟩ => by
    by_cases e : i = j
    · subst e
      rw [hp] at hq
      injection hq with hq
      subst hq
      exact ⟨h1, _, List.getElem?_set_self (lt_of_some hp), ChainFrom.setX hp x hr⟩
    · exact ⟨h1, p, by rw [List.getElem?_set_ne e]; exact hp, ChainFrom.setX hq x hr⟩
theorem SInv.setX {l : List (Place X)} {first free : Int} {fl : List Nat} (h : SInv l first free fl) {i : Nat} {q : Place X} (hq : l[i]? = some q) (x : X) : SInv (l.set i { q with x := x }) first free fl := by
  refine ⟨h.chain.setX hq x, h.nodup, fun j p hj => ?_, h.free⟩
  rcases get_set hj with ⟨rfl, rfl⟩ | ⟨hne, hj⟩
  · exact h.is j q hq
  · exact h.is j p hj
theorem nodup_length : ∀ (n : Nat) (fl : List Nat), fl.Nodup → (∀ i ∈ fl, i < n) → fl.length ≤ n
  | 0, fl, _, h => by
    cases fl with
    | nil => simp
    | cons a r => exact absurd (h a (by simp)) (by omega)
  | n + 1, fl, hn, h => by
    by_cases hm : n ∈ fl
    · have := nodup_length n (fl.erase n) (hn.erase n) fun i hi => by
        rw [hn.mem_erase_iff] at hi
        have := h i hi.2
        omega
      rw [List.length_erase_of_mem hm] at this
      omega
    · have := nodup_length n fl hn fun i hi => by
        have h1 := h i hi
        have : i ≠ n := fun e => hm (e ▸ hi)
        omega
      omega
theorem SInv.free_le {l : List (Place X)} {first free : Int} {fl : List Nat} (h : SInv l first free fl) : fl.length ≤ l.length := by
  exact nodup_length l.length fl h.nodup fun i hi => h.chain.mem i hi
/-- A new slab: all are free, in order. -/
theorem chain_new (z : X) (n : Nat) : ∀ (d k : Nat), n - k = d → k ≤ n → ChainFrom ((List.range n).map fun (i : Nat) => (⟨z, false, if i + 1 < n then (i : Int) + 1 else -1⟩ : Place X)) (if k < n then (k : Int) else -1) (List.range' k d)
  | 0, k, h, hk => by
    rw [if_neg (by omega)]
    show (-1 : Int) < 0
    omega
  | d + 1, k, h, hk => by
    rw [if_pos (by omega)]
    have := chain_new z n d (k + 1) (by omega) (by omega)
    refine ⟨rfl, ⟨z, false, if k + 1 < n then (k : Int) + 1 else -1⟩, by rw [List.getElem?_map, List.getElem?_range (by omega)]; rfl, ?_⟩
    show ChainFrom _ (if k + 1 < n then (k : Int) + 1 else -1) (List.range' (k + 1) d)
    rw [show (if k + 1 < n then (k : Int) + 1 else -1) = (if k + 1 < n then ((k + 1 : Nat) : Int) else -1) by simp]
    exact this
theorem SInv.new (z : X) (n : Nat) (hn : 0 < n) : SInv ((List.range n).map fun (i : Nat) => (⟨z, false, if i + 1 < n then (i : Int) + 1 else -1⟩ : Place X)) 0 n (List.range' 0 n) := by
  have := chain_new z n n 0 (by omega) (by omega)
  rw [if_pos hn] at this
  refine ⟨this, List.nodup_range', fun i p hp => ?_, by simp⟩
  have hi := lt_of_some hp
  simp at hi
  simp [hi] at hp
  subst hp
  simp [hi]

/-- What the places have. -/
def absP (l : List (Place X)) : List (Option X) := l.map fun p => if p.taken then some p.x else none
theorem absP_length (l : List (Place X)) : (absP l).length = l.length := by simp [absP]
theorem absP_set (l : List (Place X)) (i : Nat) (p : Place X) : absP (l.set i p) = (absP l).set i (if p.taken then some p.x else none) := by simp [absP, List.map_set]
theorem absP_at {l : List (Place X)} {i : Nat} {p : Place X} (h : l[i]? = some p) : (absP l)[i]? = some (if p.taken then some p.x else none) := by simp [absP, h]
/-- What place i has. -/
def getA (A : List (Option X)) (i : Int) : Option X := if 0 ≤ i then (A[i.toNat]?).join else none
theorem getA_nat (A : List (Option X)) (i : Nat) : getA A (i : Int) = (A[i]?).join := by simp [getA]
theorem getA_hasP {l : List (Place X)} {i : Int} : hasP l i = (getA (absP l) i).isSome := by
  unfold hasP getA
  by_cases h : 0 ≤ i
  · rw [if_pos h, decide_eq_true h, Bool.true_and]
    cases hp : l[i.toNat]? with
    | none => simp [absP, hp]
    | some p =>
      rw [absP_at hp]
      cases ht : p.taken <;> simp [ht]
  · rw [if_neg h, decide_eq_false h]
    rfl
theorem getA_some {l : List (Place X)} {i : Int} {x : X} (h : getA (absP l) i = some x) : ∃ (k : Nat) (nx : Int), i = k ∧ l[k]? = some ⟨x, true, nx⟩ := by
  unfold getA at h
  by_cases h0 : 0 ≤ i
  · rw [if_pos h0] at h
    obtain ⟨k, rfl⟩ := Int.eq_ofNat_of_zero_le h0
    rw [Int.toNat_natCast] at h
    cases hp : l[k]? with
    | none => simp [absP, hp] at h
    | some p =>
      rw [absP_at hp] at h
      obtain ⟨y, t, nx⟩ := p
      cases t with
      | false => simp at h
      | true =>
        simp at h
        subst h
        exact ⟨k, nx, rfl, hp⟩
  · rw [if_neg h0] at h; cases h
theorem SInv.mem_iff {l : List (Place X)} {first free : Int} {fl : List Nat} (h : SInv l first free fl) (i : Nat) : i ∈ fl ↔ (absP l)[i]? = some none := by
  constructor
  · intro hm
    have hi := h.chain.mem i hm
    have hp : l[i]? = some l[i] := List.getElem?_eq_getElem hi
    rw [absP_at hp, (h.is i _ hp).1 hm]
    rfl
  · intro hA
    cases hp : l[i]? with
    | none => simp [absP, hp] at hA
    | some p =>
      rw [absP_at hp] at hA
      refine (h.is i p hp).2 ?_
      cases ht : p.taken with
      | false => rfl
      | true => rw [ht] at hA; simp at hA
end Go.Proofs.Ytgcfiiidhihkaaa.C
