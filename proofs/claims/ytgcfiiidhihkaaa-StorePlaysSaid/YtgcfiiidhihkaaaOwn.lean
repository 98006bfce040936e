/- Rows of the call's own: what keeps them; appends onto them at the operation; literals. No conditions. -/
import Derived.Test.YtgcfiiidhihkaaaWide
import Derived.Test.YtgcfiiidhihkaaaFlat
import Derived.Deep.AppendLies
import Derived.OneCell
namespace Go.Proofs.Ytgcfiiidhihkaaa.C.OW
open Go.RowKit
set_option linter.unusedVariables false
section
variable {w w' : World} {base n : Nat} {e : TypeId} {size : Nat} {v : Value} {xs : List Value}
theorem slice (h : w.ownsRow base e size v n xs) : ∃ A c, v = .slice A n c := by
  rcases h.2 with ⟨rfl, rfl⟩ | ⟨g, cap, cur, rfl, _⟩
  · exact ⟨none, 0, rfl⟩
  · exact ⟨_, cap, rfl⟩
theorem below (o : w.ownsRow base e size v n xs) (p : Below w.heap.size w w') : w'.ownsRow base e size v n xs :=
  World.ownsRow.kept (row := none) o ⟨p.os, p.tape, p.output, p.size, fun k hk _ => p.block k hk⟩ (by
    cases hv : v.ownBlock
    · exact .inl rfl
    · exact .inr (by simp))
theorem keep (o : w.ownsRow base e size v n xs) (p : ∀ k, base ≤ k → k < w.heap.size → w'.heap[k]? = w.heap[k]?) : w'.ownsRow base e size v n xs := by
  refine ⟨o.1, ?_⟩
  rcases o.2 with h0 | ⟨q, cp, cur, hv, hg, hh, r⟩
  · exact .inl h0
  · exact .inr ⟨q, cp, cur, hv, hg, (p q hg (Array.getElem?_eq_some_iff.1 hh).1).trans hh, r⟩
theorem two {g h : Nat} (o : w.ownsRow base e size v n xs) (p : Two g h w w') (h1 : g < base) (h2 : h < base) : w'.ownsRow base e size v n xs :=
  keep o fun k hk hk' => p.block k hk' (by omega) (by omega)
theorem empty {b : Nat} (h : w.heap[b]? = some (.cells #[] e (0, 0))) (hb : base ≤ b) : w.ownsRow base e size (.slice (some ⟨b, 0, none⟩) 0 0) 0 [] :=
  ⟨by simp, .inr ⟨b, 0, #[], rfl, hb, h, Nat.le_refl _, by simp [maxLen], by simp, by simp⟩⟩
theorem block (o : w.ownsRow base e size v n xs) {b : Nat} (hv : v.ownBlock = some b) : ∃ cur, w.heap[b]? = some (.cells cur e (0, 0)) := by
  rcases o.2 with ⟨rfl, _⟩ | ⟨q, cp, cur, rfl, _, hh, _⟩
  · simp [Value.ownBlock] at hv
  · simp only [Value.ownBlock, Option.some.injEq] at hv
    subst hv
    exact ⟨cur, hh⟩
/-- Rows of unlike elements lie in unlike blocks; so do boxes. -/
theorem ne_block (o : w.ownsRow base e size v n xs) {b : Nat} {C : Array Value} {t : TypeId} {fr : Nat × Nat} (hb : w.heap[b]? = some (.cells C t fr)) (hne : e ≠ t) : v.ownBlock ≠ some b := by
  intro hv
  obtain ⟨cur, hh⟩ := block o hv
  rw [hb] at hh
  injection hh with hh
  injection hh with _ hh _
  exact hne hh.symm
theorem ne_row {base' n' : Nat} {e' : TypeId} {size' : Nat} {v' : Value} {xs' : List Value} (o : w.ownsRow base e size v n xs) (o' : w.ownsRow base' e' size' v' n' xs') {g : Nat} (hg : v'.ownBlock = some g) (hne : e ≠ e') : v.ownBlock ≠ some g := by
  obtain ⟨cur, hh⟩ := block o' hg
  exact ne_block o hh hne
theorem setCell {b j : Nat} (o : w.ownsRow base e size v n xs) (h : v.ownBlock ≠ some b) (u : Value) : (w.setCell ⟨b, j, none⟩ u).ownsRow base e size v n xs := by
  refine ⟨o.1, ?_⟩
  rcases o.2 with h0 | ⟨q, cp, cur, rfl, hg, hh, r⟩
  · exact .inl h0
  · refine .inr ⟨q, cp, cur, rfl, hg, ?_, r⟩
    rw [heap_setCell_other _ _ _ _ (by simp [Value.ownBlock] at h; simpa using h)]
    exact hh
theorem cap {g c : Nat} (o : w.ownsRow base e size (.slice (some ⟨g, 0, none⟩) n c) n xs) : n ≤ c ∧ c ≤ maxLen := by
  rcases o.2 with ⟨h0, _⟩ | ⟨q, cp, cur, hv, _, _, h1, h2, _⟩
  · cases h0
  · injection hv with _ _ hv3
    subst hv3
    exact ⟨h1, h2⟩
end
theorem addr_off (g o j : Nat) : (⟨g, o, none⟩ : Addr).add j = ⟨g, o + j, none⟩ := by
  unfold Addr.add
  split
  · rename_i h
    subst h
    rfl
  · rfl
/-- An append onto what the call owns, of cells that lie there. -/
theorem wp_append {P : Program} (w : World) {o : Oper} {a : Act} {K : Act → World → Prop} {Q : Exit → Act → World → Prop} (s x : Operand) (t : TypeId)
    (ho : o.op = .call { callee := .builtin .append, args := #[s, x], argTypes := #[t, t] })
    (base : Nat) (e : TypeId) (i : TypeInfo) (z : Value) (size bytes : Nat) (ht : P.underlying t = some (.slice e)) (hi : P.info? e = some i) (hz : i.zero = some z)
    (hsize : i.size = size) (hby : i.bytes = bytes) (hzs : z.cells.size = size) (hsz : 0 < size)
    (v : Value) (n : Nat) (xs : List Value) (hs : a.eval s = v) (hown : w.ownsRow base e size v n xs)
    (ad : Addr) (m c : Nat) (news : List Value) (hx : a.eval x = .slice (some ad) m c) (hl : news.length = m * size) (hnews : ∀ j u, news[j]? = some u → w.cell? (ad.add j) = some u) (h1 : ∀ u ∈ news, u.oneCell' = true)
    (h63 : n + m ≤ maxLen) (hbytes : (n + m) * bytes ≤ 140737488355328) (hbase : base ≤ w.heap.size)
    (h : ∀ v' w', w'.ownsRow base e size v' (n + m) (xs ++ news) → w.grownBy w' v.ownBlock → (v'.ownBlock = v.ownBlock ∨ v'.ownBlock = some w.heap.size) → K (a.put o.dst v') w') : o.wp P a w K Q := by
  obtain ⟨v', w', hr, h2, h3, h4, h5⟩ := run_append_own_at (P := P) w base t o.type e i z size bytes ht hi hz hsize hby hzs hsz v n xs hown ad m c news hl hnews h1 h63 hbytes hbase
  unfold Oper.wp execOp
  simp only [ho, resolve, invoke, builtin, Sem.run_bind, Sem.run_pure, Result.andThen_ok, List.map_toArray, List.map_cons, List.map_nil, hs, hx, hr]
  exact h v' w' h2 h3 h5
/-- .. of what the call owns: nil too. -/
theorem wp_append_row {P : Program} (w : World) {o : Oper} {a : Act} {K : Act → World → Prop} {Q : Exit → Act → World → Prop} (s x : Operand) (t : TypeId)
    (ho : o.op = .call { callee := .builtin .append, args := #[s, x], argTypes := #[t, t] })
    (base : Nat) (e : TypeId) (i : TypeInfo) (z : Value) (size bytes : Nat) (ht : P.underlying t = some (.slice e)) (hi : P.info? e = some i) (hz : i.zero = some z)
    (hsize : i.size = size) (hby : i.bytes = bytes) (hzs : z.cells.size = size) (hsz : 0 < size)
    (v : Value) (n : Nat) (xs : List Value) (hs : a.eval s = v) (hown : w.ownsRow base e size v n xs)
    (vx : Value) (base' m : Nat) (news : List Value) (hx : a.eval x = vx) (hox : w.ownsRow base' e size vx m news) (h1 : ∀ u ∈ news, u.oneCell' = true)
    (h63 : n + m ≤ maxLen) (hbytes : (n + m) * bytes ≤ 140737488355328) (hbase : base ≤ w.heap.size)
    (h : ∀ v' w', w'.ownsRow base e size v' (n + m) (xs ++ news) → w.grownBy w' v.ownBlock → (v'.ownBlock = v.ownBlock ∨ v'.ownBlock = some w.heap.size) → K (a.put o.dst v') w') : o.wp P a w K Q := by
  rcases hox.2 with ⟨rfl, rfl⟩ | ⟨g, cap, cur, rfl, _⟩
  · have hn : news = [] := List.eq_nil_of_length_eq_zero (by simpa using hox.1)
    subst hn
    have hr := run_append_owned_none (P := P) w base t o.type e i size ht hi v n xs hown
    unfold Oper.wp execOp
    simp only [ho, resolve, invoke, builtin, Sem.run_bind, Sem.run_pure, Result.andThen_ok, List.map_toArray, List.map_cons, List.map_nil, hs, hx, hr]
    exact h v w (by simpa using hown) ⟨rfl, rfl, rfl, Nat.le_refl _, fun _ _ _ => rfl⟩ (.inl rfl)
  · exact wp_append w s x t ho base e i z size bytes ht hi hz hsize hby hzs hsz v n xs hs hown ⟨g, 0, none⟩ m cap news hx hox.1 (hox.cells (g := g) rfl) h1 h63 hbytes hbase h
/-- The literal '[]T{}', '[]T{x}' at the operation. -/
theorem exec_slice_one {P : Program} {a : Act} {w : World} {d : Option Nat} {g : Option (Nat × Bool)} {s : Nat} {t e : TypeId} {ty : TypeId} {pos : String} {after : Array Edge} {cs : Array Value} {n : Nat} (hx : a.tmps.getD s undef = .agg cs)
    (ht : P.underlying t = some (.slice e)) (hi : (P.info? e).map (·.size) = some n) (hz : ∃ z, (P.info? e).map (·.zero) = some (some z)) (h0 : 0 < n) (h1 : n ≤ 65536) (hn : cs.size = n) :
    (execOp a.eval ⟨d, .buildSlice t 1 #[(0, .tmp s)], ty, pos, after, g⟩).run P w = .ok (.value (.slice (some ⟨w.heap.size, 0, none⟩) 1 1)) (w.alloc (.cells cs e)) := by
  have hx' : a.eval (.tmp s) = .agg cs := hx
  unfold execOp
  simp only [List.map_toArray, List.map_cons, List.map_nil, hx', Sem.run_bind, run_buildSlice_one t e cs n ht hi hz h0 h1 hn, Result.andThen_ok, Sem.run_pure]
theorem wp_slice_one {P : Program} {a : Act} {w : World} {K : Act → World → Prop} {Q : Exit → Act → World → Prop} {o : Oper} {s : Nat} {t e : TypeId} {cs : Array Value} {n : Nat} (ho : o.op = .buildSlice t 1 #[(0, .tmp s)]) (hx : a.tmps.getD s undef = .agg cs)
    (ht : P.underlying t = some (.slice e)) (hi : (P.info? e).map (·.size) = some n) (hz : ∃ z, (P.info? e).map (·.zero) = some (some z)) (h0 : 0 < n) (h1 : n ≤ 65536) (hn : cs.size = n)
    (h : K (a.put o.dst (.slice (some ⟨w.heap.size, 0, none⟩) 1 1)) (w.alloc (.cells cs e))) : o.wp P a w K Q := by
  have hx' : a.eval (.tmp s) = .agg cs := hx
  unfold Oper.wp execOp
  simp only [ho, List.map_toArray, List.map_cons, List.map_nil, hx', Sem.run_bind, run_buildSlice_one t e cs n ht hi hz h0 h1 hn, Result.andThen_ok, Sem.run_pure]
  exact h
end Go.Proofs.Ytgcfiiidhihkaaa.C.OW
