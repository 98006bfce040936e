/- Chains in memory, told by their lines: the contracts. -/
import Derived.Test.YtgcfiiidhihkaaaChainY
import Derived.Test.YtgcfiiidhihkaaaChainN
namespace Go.Proofs.Ytgcfiiidhihkaaa.C.CH
open Go.RowKit
set_option linter.unusedVariables false
theorem at_nil (i k : Int) (w : World) : Calls Try.prog 31 #[.pointer none, .int .i64 i, .int .i64 k] w fun e w' => e = .returned (.tuple #[.int .i64 0, .bool false]) ∧ w' = w := by
  have C := Lib.hid (find_nil i k w)
  go_enter Try.func31, Try.ntmps31
  go_wp2_with fail
  refine C.out.mono ?_
  rintro e w1 ⟨rfl, rfl⟩
  go_wp2
  go_ret2
  exact ⟨rfl, rfl⟩
theorem at_of (pb : Nat) (i k p ah : Int) (b : Bool) (w : World) (C : Hid (Calls Try.prog 59 #[.pointer (some ⟨pb, 0, none⟩), .int .i64 i, .int .i64 k] w fun e w' => e = .returned (.tuple #[.int .i64 p, .int .i64 ah, .bool b]) ∧ ∃ m, w' = w.drewN m)) :
    Calls Try.prog 31 #[.pointer (some ⟨pb, 0, none⟩), .int .i64 i, .int .i64 k] w fun e w' => e = .returned (.tuple #[.int .i64 p, .bool b]) ∧ ∃ m, w' = w.drewN m := by
  go_enter Try.func31, Try.ntmps31
  go_wp2_with fail
  refine C.out.mono ?_
  rintro e w1 ⟨rfl, m, rfl⟩
  go_wp2
  go_ret2
  exact ⟨rfl, m, rfl⟩
theorem cut_of_no (pb : Nat) (i k : Int) (w : World) (C : Hid (Calls Try.prog 59 #[.pointer (some ⟨pb, 0, none⟩), .int .i64 i, .int .i64 k] w fun e w' => e = .returned (.tuple #[.int .i64 0, .int .i64 (-1), .bool false]) ∧ w' = w)) :
    Calls Try.prog 33 #[.pointer (some ⟨pb, 0, none⟩), .int .i64 i, .int .i64 k] w fun e w' => e = .returned (.tuple #[.int .i64 0, .bool false]) ∧ w' = w := by
  go_enter Try.func33, Try.ntmps33
  go_wp2_with fail
  refine C.out.mono ?_
  rintro e w1 ⟨rfl, rfl⟩
  go_wp2
  go_ret2
  exact ⟨rfl, rfl⟩
theorem push_nil (l p : Int) (w : World) : Calls Try.prog 28 #[.pointer none, .int .i64 l, .int .i64 p] w fun e w' => e = .returned (.bool false) ∧ w' = w := by
  have C := Lib.hid (has_nil l w)
  go_enter Try.func28, Try.ntmps28
  go_wp2_with fail
  refine C.out.mono ?_
  rintro e w1 ⟨rfl, rfl⟩
  go_wp2
  go_ret
  exact ⟨rfl, rfl⟩
theorem push_noline (pb b1 b2 : Nat) (l p : Int) (ln : List Ln) (lk : List Lk) (w : World) (h : CAt w pb b1 b2 ln lk) (hi : ¬ (0 ≤ l ∧ l < ln.length)) :
    Calls Try.prog 28 #[.pointer (some ⟨pb, 0, none⟩), .int .i64 l, .int .i64 p] w fun e w' => e = .returned (.bool false) ∧ w' = w := by
  have C := Lib.hid (has_any pb b1 b2 l ln lk w h)
  rw [decide_eq_false hi] at C
  clear h hi
  go_enter Try.func28, Try.ntmps28
  go_wp2_with fail
  refine C.out.mono ?_
  rintro e w1 ⟨rfl, rfl⟩
  go_wp2
  go_ret
  exact ⟨rfl, rfl⟩
theorem push_noplace (pb b1 b2 : Nat) (l p : Int) (ln : List Ln) (lk : List Lk) (w : World) (h : CAt w pb b1 b2 ln lk) (hi : 0 ≤ l ∧ l < ln.length) (hp : p < 0 ∨ (lk.length : Int) ≤ p) :
    Calls Try.prog 28 #[.pointer (some ⟨pb, 0, none⟩), .int .i64 l, .int .i64 p] w fun e w' => e = .returned (.bool false) ∧ w' = w := by
  have C := Lib.hid (has_any pb b1 b2 l ln lk w h)
  rw [decide_eq_true hi] at C
  have c1 := h.c1
  clear h hi
  generalize lk.length = n at *
  by_cases h0 : p < 0
  · go_enter Try.func28, Try.ntmps28
    go_wp2_with fail
    refine C.out.mono ?_
    rintro e w1 ⟨rfl, rfl⟩
    go_wp2
    go_ret
    exact ⟨rfl, rfl⟩
  · have h0' : 0 ≤ p := by omega
    have h1 : (n : Int) ≤ p := by omega
    have d1 : decide ((n : Int) ≤ p) = true := decide_eq_true h1
    go_enter Try.func28, Try.ntmps28
    go_wp2_with fail
    refine C.out.mono ?_
    rintro e w1 ⟨rfl, rfl⟩
    go_wp2
    go_ret
    exact ⟨rfl, rfl⟩
theorem push_taken (pb b1 b2 p : Nat) (l : Int) (x : Lk) (ln : List Ln) (lk : List Lk) (w : World) (h : CAt w pb b1 b2 ln lk) (hi : 0 ≤ l ∧ l < ln.length) (hx : lk[p]? = some x) (hne : x.line ≠ -1) (hll : lk.length ≤ 65536) :
    Calls Try.prog 28 #[.pointer (some ⟨pb, 0, none⟩), .int .i64 l, .int .i64 (p : Nat)] w fun e w' => e = .returned (.bool false) ∧ w' = w := by
  have C := Lib.hid (has_any pb b1 b2 l ln lk w h)
  rw [decide_eq_true hi] at C
  have c1 := h.c1
  have hlt := lt_of_some hx
  have d1 : decide (lk.length ≤ p) = false := by simp; omega
  have e0 := (h.lk_ hx).1
  generalize x.line = xl at *
  have e1 : (xl != -1) = true := by simp [bne, beq_false_of_ne hne]
  clear h hi hx
  go_enter Try.func28, Try.ntmps28
  go_wp2_with fail
  refine C.out.mono ?_
  rintro e w1 ⟨rfl, rfl⟩
  go_wp2
  go_ret
  exact ⟨rfl, rfl⟩

/-- Chains in memory, told by their lines and how many places there are. -/
def Chain (w : World) (pb b1 b2 : Nat) (Q : List (List Nat)) (m : Nat) : Prop := ∃ ln lk, CAt w pb b1 b2 ln lk ∧ CInv ln lk Q ∧ lk.length = m ∧ Q.length ≤ 129 ∧ m ≤ 4096
section
variable {w : World} {pb b1 b2 m : Nat} {Q : List (List Nat)}
theorem Chain.drewN (h : Chain w pb b1 b2 Q m) (n : Nat) : Chain (w.drewN n) pb b1 b2 Q m := by
  obtain ⟨ln, lk, h1, h2⟩ := h
  exact ⟨ln, lk, h1.drewN n, h2⟩
theorem Chain.below (h : Chain w pb b1 b2 Q m) {w' : World} (p : Below w.heap.size w w') : Chain w' pb b1 b2 Q m := by
  obtain ⟨ln, lk, h1, h2⟩ := h
  exact ⟨ln, lk, h1.below p, h2⟩
theorem Chain.nodup (h : Chain w pb b1 b2 Q m) {l : Nat} {q : List Nat} (hq : Q[l]? = some q) : q.Nodup ∧ q.length ≤ m := by
  obtain ⟨ln, lk, h1, h2, rfl, _⟩ := h
  have hn : q.Nodup := by
    rw [List.Nodup, List.pairwise_iff_getElem]
    intro i j hi hj hij e
    have := h2.inj l q i j _ hq (List.getElem?_eq_getElem hi) (by rw [List.getElem?_eq_getElem hj, e])
    omega
  exact ⟨hn, nodup_length _ q hn fun i hi => h2.lt hq hi⟩
theorem c_len (h : Chain w pb b1 b2 Q m) {l : Nat} {q : List Nat} (hq : Q[l]? = some q) :
    Calls Try.prog 29 #[.pointer (some ⟨pb, 0, none⟩), .int .i64 (l : Nat)] w fun e w' => e = .returned (.int .i64 (q.length : Nat)) ∧ w' = w := by
  obtain ⟨ln, lk, h1, h2, rfl, h4, h5⟩ := h
  exact len_yes pb b1 b2 l _ ln lk w h1 (h2.line l q hq) (by rw [h2.len]; omega)
theorem c_len_no (i : Int) (h : Chain w pb b1 b2 Q m) (hi : ¬ (0 ≤ i ∧ i < Q.length)) :
    Calls Try.prog 29 #[.pointer (some ⟨pb, 0, none⟩), .int .i64 i] w fun e w' => e = .returned (.int .i64 0) ∧ w' = w := by
  obtain ⟨ln, lk, h1, h2, rfl, h4, h5⟩ := h
  exact len_no pb b1 b2 i ln lk w h1 (by rw [h2.len]; exact hi)
theorem c_line_no (p : Int) (h : Chain w pb b1 b2 Q m) (hp : p < 0 ∨ (m : Int) ≤ p) :
    Calls Try.prog 30 #[.pointer (some ⟨pb, 0, none⟩), .int .i64 p] w fun e w' => e = .returned (.tuple #[.int .i64 0, .bool false]) ∧ w' = w := by
  obtain ⟨ln, lk, h1, h2, rfl, h4, h5⟩ := h
  exact line_no pb b1 b2 p ln lk w h1 hp
theorem c_line (h : Chain w pb b1 b2 Q m) {l p : Nat} {q : List Nat} (hq : Q[l]? = some q) (hp : p ∈ q) :
    Calls Try.prog 30 #[.pointer (some ⟨pb, 0, none⟩), .int .i64 (p : Nat)] w fun e w' => e = .returned (.tuple #[.int .i64 (l : Nat), .bool true]) ∧ w' = w := by
  obtain ⟨ln, lk, h1, h2, rfl, h4, h5⟩ := h
  obtain ⟨nx, hx⟩ := h2.here hq hp
  have := line_in pb b1 b2 p _ ln lk w h1 hx (by omega)
  rwa [if_neg (by show ¬ ((l : Nat) : Int) = -1; omega)] at this
theorem c_line_free (h : Chain w pb b1 b2 Q m) {p : Nat} (hp : p < m) (hn : ∀ (l : Nat) (q : List Nat), Q[l]? = some q → p ∉ q) :
    Calls Try.prog 30 #[.pointer (some ⟨pb, 0, none⟩), .int .i64 (p : Nat)] w fun e w' => e = .returned (.tuple #[.int .i64 0, .bool false]) ∧ w' = w := by
  obtain ⟨ln, lk, h1, h2, rfl, h4, h5⟩ := h
  have hx : lk[p]? = some lk[p] := List.getElem?_eq_getElem hp
  have := line_in pb b1 b2 p _ ln lk w h1 hx (by omega)
  rwa [if_pos (h2.free p _ hx hn)] at this
theorem c_push_no (l p : Int) (h : Chain w pb b1 b2 Q m) (hn : ¬ (0 ≤ l ∧ l < Q.length) ∨ p < 0 ∨ (m : Int) ≤ p ∨ ∃ (p' l' : Nat) (q : List Nat), p = p' ∧ Q[l']? = some q ∧ p' ∈ q) :
    Calls Try.prog 28 #[.pointer (some ⟨pb, 0, none⟩), .int .i64 l, .int .i64 p] w fun e w' => e = .returned (.bool false) ∧ w' = w := by
  obtain ⟨ln, lk, h1, h2, rfl, h4, h5⟩ := h
  by_cases hl : 0 ≤ l ∧ l < Q.length
  · rcases hn with hn | hn | hn | ⟨p', l', q, rfl, hq, hp⟩
    · exact absurd hl hn
    · exact push_noplace pb b1 b2 l p ln lk w h1 (by rw [h2.len]; exact hl) (.inl hn)
    · exact push_noplace pb b1 b2 l p ln lk w h1 (by rw [h2.len]; exact hl) (.inr hn)
    · obtain ⟨nx, hx⟩ := h2.here hq hp
      exact push_taken pb b1 b2 p' l _ ln lk w h1 (by rw [h2.len]; exact hl) hx (by show ((l' : Nat) : Int) ≠ -1; omega) (by omega)
  · exact push_noline pb b1 b2 l p ln lk w h1 (by rw [h2.len]; exact hl)
theorem c_new (n m : Nat) (w : World) (h1 : 1 ≤ n) (h2 : n ≤ 129) (h3 : 1 ≤ m) (h4 : m ≤ 4096) :
    Calls Try.prog 27 #[.int .i64 (n : Nat), .int .i64 (m : Nat)] w fun e w' => ∃ pb b1 b2 : Nat, e = .returned (.tuple #[.pointer (some ⟨pb, 0, none⟩), .int .i64 0]) ∧ w.heap.size ≤ pb ∧ w.heap.size ≤ b1 ∧ w.heap.size ≤ b2 ∧ Chain w' pb b1 b2 (List.replicate n []) m ∧ Below w.heap.size w w' := by
  refine (new_ok n m w h1 h2 h3 h4).mono ?_
  rintro e w' ⟨pb, b1, b2, rfl, g1, g2, g3, hC, hB⟩
  exact ⟨pb, b1, b2, rfl, g1, g2, g3, ⟨_, _, hC, CInv.new n m, by simp, by simpa using h2, h4⟩, hB⟩
theorem c_at (h : Chain w pb b1 b2 Q m) {l k p : Nat} {q : List Nat} (hq : Q[l]? = some q) (hp : q[k]? = some p) :
    Calls Try.prog 31 #[.pointer (some ⟨pb, 0, none⟩), .int .i64 (l : Nat), .int .i64 (k : Nat)] w fun e w' => e = .returned (.tuple #[.int .i64 (p : Nat), .bool true]) ∧ ∃ m, w' = w.drewN m := by
  have hnd := (h.nodup hq).2
  obtain ⟨ln, lk, h1, h2, rfl, h4, h5⟩ := h
  exact at_of pb _ _ _ _ _ w (find_yes pb b1 b2 l k p q Q ln lk w h1 h2 hq hp (by rw [h2.len]; omega) (by omega) (by omega))
theorem find_none (i k : Int) (h : Chain w pb b1 b2 Q m) (hn : ∀ (l k' : Nat) (q : List Nat), i = l → k = k' → Q[l]? = some q → q[k']? = none) :
    Calls Try.prog 59 #[.pointer (some ⟨pb, 0, none⟩), .int .i64 i, .int .i64 k] w fun e w' => e = .returned (.tuple #[.int .i64 0, .int .i64 (-1), .bool false]) ∧ w' = w := by
  obtain ⟨ln, lk, h1, h2, rfl, h4, h5⟩ := h
  by_cases hl : 0 ≤ i ∧ i < Q.length
  · obtain ⟨l, rfl⟩ := Int.eq_ofNat_of_zero_le hl.1
    obtain ⟨q, hq⟩ : ∃ q, Q[l]? = some q := ⟨_, List.getElem?_eq_getElem (by omega)⟩
    refine find_out pb b1 b2 l k _ ln lk w h1 (h2.line l q hq) (by rw [h2.len]; omega) ?_
    by_cases hk : k < 0
    · exact .inl hk
    · obtain ⟨k, rfl⟩ := Int.eq_ofNat_of_zero_le (by omega : 0 ≤ k)
      have := hn l k q rfl rfl hq
      rw [List.getElem?_eq_none_iff] at this
      exact .inr (by show ((q.length : Nat) : Int) ≤ (k : Int); omega)
  · exact find_no pb b1 b2 i k ln lk w h1 (by rw [h2.len]; exact hl)
end
end Go.Proofs.Ytgcfiiidhihkaaa.C.CH
