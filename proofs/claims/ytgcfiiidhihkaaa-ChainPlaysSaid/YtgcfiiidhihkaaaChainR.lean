/- The reference's chains (a value): how they lie in memory; the walks of With, New. -/
import Derived.Test.YtgcfiiidhihkaaaChainQ
import Derived.Test.YtgcfiiidhihkaaaSPlays
import Derived.Deep.AppendLies
import Derived.Deep.RegionHeld
import Derived.OneCell
import Derived.Laws.ResultCell
namespace Go.Proofs.Ytgcfiiidhihkaaa.C
open Go.RowKit
set_option linter.unusedVariables false
/-- A line, as cells. -/
def natV (q : List Nat) : List Value := q.map fun (p : Nat) => Value.int .i64 (p : Int)
theorem natV_length (q : List Nat) : (natV q).length = q.length := by simp [natV]
theorem natV_at (q : List Nat) (c : Nat) : (natV q)[c]? = (q[c]?).map fun (p : Nat) => Value.int .i64 (p : Int) := by simp [natV]
/-- The reference's value. -/
@[reducible] def cv (g cap n m : Nat) : Value := .agg #[.slice (some ⟨g, 0, none⟩) n cap, .int .i64 (m : Nat)]
/-- Its lines in memory. -/
structure CR (w : World) (base g cap : Nat) (S : List Value) (Q : List (List Nat)) : Prop where
  outer : w.ownsRow base 35 1 (.slice (some ⟨g, 0, none⟩) Q.length cap) Q.length S
  inner : ∀ (l : Nat) (q : List Nat), Q[l]? = some q → ∃ v, S[l]? = some v ∧ w.ownsRow base 3 1 v q.length (natV q)
theorem own_below {w w' : World} {base n : Nat} {e : TypeId} {size : Nat} {v : Value} {xs : List Value} (o : w.ownsRow base e size v n xs) (p : Below w.heap.size w w') : w'.ownsRow base e size v n xs :=
  World.ownsRow.kept (row := none) o ⟨p.os, p.tape, p.output, p.size, fun k hk _ => p.block k hk⟩ (by
    cases hv : v.ownBlock
    · exact .inl rfl
    · exact .inr (by simp))
theorem own_two2 {w w' : World} {base n x y : Nat} {e : TypeId} {size : Nat} {v : Value} {xs : List Value} (o : w.ownsRow base e size v n xs) (p : Two x y w w') (hx : x < base) (hy : y < base) : w'.ownsRow base e size v n xs := own_two o p hx hy
theorem own_empty {W : World} {base b : Nat} {e : TypeId} {size : Nat} (h : W.heap[b]? = some (.cells #[] e (0, 0))) (hb : base ≤ b) : W.ownsRow base e size (.slice (some ⟨b, 0, none⟩) 0 0) 0 [] :=
  ⟨by simp, .inr ⟨b, 0, #[], rfl, hb, h, Nat.le_refl _, by simp [maxLen], by simp, by simp⟩⟩
/-- Rows of unlike elements lie in unlike blocks. -/
theorem own_ne {w : World} {base n n' g cap : Nat} {e e' : TypeId} {size size' : Nat} {v : Value} {xs xs' : List Value} (o : w.ownsRow base e size v n xs) (o' : w.ownsRow base e' size' (.slice (some ⟨g, 0, none⟩) n' cap) n' xs') (hne : e ≠ e') : v.ownBlock ≠ some g := by
  intro hv
  rcases o.2 with ⟨rfl, _⟩ | ⟨q, cp, cur, rfl, _, hh, _⟩
  · simp [Value.ownBlock] at hv
  · simp only [Value.ownBlock, Option.some.injEq] at hv
    subst hv
    rcases o'.2 with ⟨h0, _⟩ | ⟨q', cp', cur', hv', _, hh', _⟩
    · cases h0
    · injection hv' with hv1 hv2 hv3
      injection hv1 with hv1
      injection hv1 with hv1
      subst hv1
      rw [hh] at hh'
      injection hh' with hh'
      injection hh' with _ hh' _
      exact hne hh'
/-- An append onto what the call owns, of what it owns: nil too. -/
theorem wp_append_rows {P : Program} (w : World) {o : Oper} {a : Act} {K : Act → World → Prop} {Q : Exit → Act → World → Prop} (s x : Operand) (t : TypeId)
    (ho : o.op = .call { callee := .builtin .append, args := #[s, x], argTypes := #[t, t] })
    (base : Nat) (e : TypeId) (i : TypeInfo) (z : Value) (size bytes : Nat) (ht : P.underlying t = some (.slice e)) (hi : P.info? e = some i) (hz : i.zero = some z)
    (hsize : i.size = size) (hby : i.bytes = bytes) (hzs : z.cells.size = size) (hsz : 0 < size)
    (v : Value) (n : Nat) (xs : List Value) (hs : a.eval s = v) (hown : w.ownsRow base e size v n xs)
    (vx : Value) (base' m : Nat) (news : List Value) (hx : a.eval x = vx) (hox : w.ownsRow base' e size vx m news) (h1 : ∀ u ∈ news, u.oneCell' = true)
    (h63 : n + m ≤ maxLen) (hbytes : (n + m) * bytes ≤ 140737488355328) (hbase : base ≤ w.heap.size)
    (h : ∀ v' w', w'.ownsRow base e size v' (n + m) (xs ++ news) → w.grownBy w' v.ownBlock → (v'.ownBlock = v.ownBlock ∨ v'.ownBlock = some w.heap.size) → K (a.put o.dst v') w') : o.wp P a w K Q := by
  rcases hox.2 with ⟨rfl, rfl⟩ | ⟨g, cap, cur, rfl, _⟩
  · have hn : news = [] := List.eq_nil_of_length_eq_zero (by simpa using hox.1)
    subst hn
    have hr := run_append_owned_none (P := P) w base t o.type e i size ht hi v n xs hown
    unfold Oper.wp execOp
    simp only [ho, resolve, invoke, builtin, Sem.run_bind, Sem.run_pure, Result.andThen_ok, List.map_toArray, List.map_cons, List.map_nil, hs, hx, hr]
    exact h v w (by simpa using hown) ⟨rfl, rfl, rfl, Nat.le_refl _, fun _ _ _ => rfl⟩ (.inl rfl)
  · obtain ⟨v', w', hr, h2, h3, h4, h5⟩ := run_append_own_at (P := P) w base t o.type e i z size bytes ht hi hz hsize hby hzs hsz v n xs hown ⟨g, 0, none⟩ m cap news hox.1 (hox.cells (g := g) rfl) h1 h63 hbytes hbase
    unfold Oper.wp execOp
    simp only [ho, resolve, invoke, builtin, Sem.run_bind, Sem.run_pure, Result.andThen_ok, List.map_toArray, List.map_cons, List.map_nil, hs, hx, hr]
    exact h v' w' h2 h3 h5
section
variable {w w' : World} {base g cap m : Nat} {S : List Value} {Q : List (List Nat)}
theorem CR.below (h : CR w base g cap S Q) (p : Below w.heap.size w w') : CR w' base g cap S Q :=
  ⟨own_below h.outer p, fun l q hq => by obtain ⟨v, h1, h2⟩ := h.inner l q hq; exact ⟨v, h1, own_below h2 p⟩⟩
theorem CR.two {x y : Nat} (h : CR w base g cap S Q) (p : Two x y w w') (hx : x < base) (hy : y < base) : CR w' base g cap S Q :=
  ⟨own_two h.outer p hx hy, fun l q hq => by obtain ⟨v, h1, h2⟩ := h.inner l q hq; exact ⟨v, h1, own_two h2 p hx hy⟩⟩
theorem CR.len (h : CR w base g cap S Q) : S.length = Q.length := by have := h.outer.1; omega
theorem CR.lt (h : CR w base g cap S Q) : base ≤ g ∧ g < w.heap.size := World.ownsRow.lt h.outer g rfl
theorem CR.cell (h : CR w base g cap S Q) {l : Nat} {v : Value} (hl : S[l]? = some v) : w.cell? ⟨g, l, none⟩ = some v := by
  have : l < S.length := (List.getElem?_eq_some_iff.1 hl).1
  rw [h.outer.cellAt l (by have := h.len; omega), hl]
/-- The outer row's l-th is stored. -/
theorem CR.stored (h : CR w base g cap S Q) {l : Nat} {v : Value} {q : List Nat} (hv : w.ownsRow base 3 1 v q.length (natV q)) (hl : l < Q.length) : CR (w.setCell ⟨g, l, none⟩ v) base g cap (S.set l v) (Q.set l q) := by
  refine ⟨?_, fun l' q' hq' => ?_⟩
  · rw [List.length_set]
    exact (h.outer.stored l v).1
  · rcases get_set hq' with ⟨rfl, rfl⟩ | ⟨hne, hq'⟩
    · exact ⟨v, List.getElem?_set_self (by rw [h.len]; exact hl), ownsRow_setCell_other hv (a := ⟨g, l', none⟩) (own_ne hv h.outer (by decide)) v⟩
    · obtain ⟨v', h1, h2⟩ := h.inner l' q' hq'
      exact ⟨v', by rw [List.getElem?_set_ne (fun e => hne e.symm)]; exact h1, ownsRow_setCell_other h2 (a := ⟨g, l, none⟩) (own_ne h2 h.outer (by decide)) v⟩
/-- A cell of a box is stored, not of a row. -/
theorem CR.box {b j : Nat} {u0 u1 : Value} (h : CR w base g cap S Q) (hb : w.heap[b]? = some (.cells #[u0, u1] 57 (0, 0))) (u : Value) : CR (w.setCell ⟨b, j, none⟩ u) base g cap S Q := by
  have key : ∀ {e : TypeId} {v : Value} {n : Nat} {xs : List Value}, e ≠ 57 → w.ownsRow base e 1 v n xs → v.ownBlock ≠ some b := by
    intro e v n xs he o hv
    rcases o.2 with ⟨rfl, _⟩ | ⟨q, cp, cur, rfl, _, hh, _⟩
    · simp [Value.ownBlock] at hv
    · simp only [Value.ownBlock, Option.some.injEq] at hv
      subst hv
      rw [hb] at hh
      injection hh with hh
      injection hh with _ hh _
      exact he hh.symm
  exact ⟨ownsRow_setCell_other h.outer (a := ⟨b, j, none⟩) (key (by decide) h.outer) u, fun l q hq => by
    obtain ⟨v, h1, h2⟩ := h.inner l q hq
    exact ⟨v, h1, ownsRow_setCell_other h2 (a := ⟨b, j, none⟩) (key (by decide) h2) u⟩⟩
end
end Go.Proofs.Ytgcfiiidhihkaaa.C
