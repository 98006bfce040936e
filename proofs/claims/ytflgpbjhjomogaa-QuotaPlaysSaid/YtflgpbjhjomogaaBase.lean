/- Words that all texts of this seat share: what a slice of integers reads as; hiding a fact from the walk. No conditions. -/
import Derived.Below
import Derived.Lib.Hide
import Derived.OpenShut
import Derived.WalkKit
namespace Go.Proofs.Ytflgpbjhjomogaa.C
open Go.RowKit

/-- A slice of integers that came in: nil, or a row of cap cells, the numbers zs. -/
def IsRow (k : IntKind) (w : World) (a : Option Addr) (len cap : Nat) (zs : List Int) : Prop :=
  (a = none ∧ len = 0 ∧ cap = 0 ∧ zs = []) ∨
  ∃ x, a = some x ∧ len ≤ cap ∧ cap ≤ maxLen ∧ zs.length = cap ∧ (∀ i, i < zs.length → w.cell? (x.add i) = some (.int k (zs.getD i 0))) ∧ ∀ n ∈ zs, (Lit.int k n).wf = true
end Go.Proofs.Ytflgpbjhjomogaa.C
