/- Words that all texts of this seat share: what a slice of integers reads as; hiding a fact from the walk. No conditions. -/
import Derived.Below
import Derived.Lib.Hide
import Derived.OpenShut
import Derived.WalkKit
import Derived.Deep.Draws
namespace Go.Proofs.Ytgcfiiidhihkaaa.C
open Go.RowKit

/-- A slice of integers that came in: nil, or a row of cap cells, the numbers zs. -/
def IsRow (k : IntKind) (w : World) (a : Option Addr) (len cap : Nat) (zs : List Int) : Prop :=
  (a = none ∧ len = 0 ∧ cap = 0 ∧ zs = []) ∨
  ∃ x, a = some x ∧ len ≤ cap ∧ cap ≤ maxLen ∧ zs.length = cap ∧ (∀ i, i < zs.length → w.cell? (x.add i) = some (.int k (zs.getD i 0))) ∧ ∀ n ∈ zs, (Lit.int k n).wf = true

/-- At most the blocks g and h have turned; new ones may have come. -/
structure Two (g h : Nat) (w w' : World) : Prop where
  os : w'.os = w.os
  tape : w'.tape = w.tape
  output : w'.output = w.output
  size : w.heap.size ≤ w'.heap.size
  block : ∀ k, k < w.heap.size → k ≠ g → k ≠ h → w'.heap[k]? = w.heap[k]?
theorem Two.refl (g h : Nat) (w : World) : Two g h w w := ⟨rfl, rfl, rfl, Nat.le_refl _, fun _ _ _ _ => rfl⟩
theorem Two.trans {g h : Nat} {a b c : World} (p : Two g h a b) (q : Two g h b c) : Two g h a c :=
  ⟨q.os.trans p.os, q.tape.trans p.tape, q.output.trans p.output, Nat.le_trans p.size q.size, fun k hk h1 h2 => (q.block k (Nat.lt_of_lt_of_le hk p.size) h1 h2).trans (p.block k hk h1 h2)⟩
theorem Two.drewN {g h : Nat} {a b : World} (p : Two g h a b) (n : Nat) : Two g h a (b.drewN n) := ⟨p.os, p.tape, p.output, p.size, p.block⟩
theorem Two.setCell {g h : Nat} {a b : World} (p : Two g h a b) {x : Addr} (hx : x.block = g ∨ x.block = h) (v : Value) : Two g h a (b.setCell x v) :=
  p.trans ⟨rfl, rfl, rfl, by simp [World.setCell], fun k _ h1 h2 => Below.heap_setCell _ _ _ _ (by rcases hx with hx | hx <;> omega)⟩
theorem Two.below {g h B : Nat} {a b : World} (p : Two g h a b) (hB : B ≤ a.heap.size) (hg : B ≤ g) (hh : B ≤ h) : Below B a b :=
  ⟨p.os, p.tape, p.output, p.size, fun k hk => p.block k (by omega) (by omega) (by omega)⟩

theorem below_drewN {B : Nat} {a w : World} (h : Below B a w) (n : Nat) : Below B a (w.drewN n) := ⟨h.os, h.tape, h.output, h.size, h.block⟩
end Go.Proofs.Ytgcfiiidhihkaaa.C
