/-
  No cell of these rows narrows 'for every input' (looked for: loops, veiled, ifaces, maps, wideKeys, modest, calm, conditions, laid).
  DERIVED. THE GIVEN ROWS OF THIS SEAT. 11 by the template 'for every input the law returns true; each argument reads behind the call as it read before'; 0 by the template 'total and deterministic' (their statements: YtgcfiiidhihkaaaTotals.lean).
  GIVEN WITH THE SEED: the statements are not yours to turn. If you find one false, say at which input.
  Laid BY PROGRAM, IN A SANDBOX (cutbox-rows.mjs): the forced cells as the released guide's own fill.sh prints them over the translation f6a87ee3de82cdd2… (all of the seat's roots in one cut). By AI agents, Wed Nov 11 2026. No macro, syntax, notation, axiom, sorry.
-/
import Derived.Test.YtgcfiiidhihkaaaChecked
import GoSem.Claim
import GoSem.ClaimJoined
import GoSem.ClaimMapViews
import Derived.JoinedTies
import Derived.KernelRfl
namespace Go.Proofs.Ytgcfiiidhihkaaa
/- THE CELL 'sum', in the pinned program and in every row, IS THE sha256 OF THE DUMP (.gsa) THAT YtgcfiiidhihkaaaProg.lean LOADS. Nothing in Lean hashes anything: it is a label: what it is worth is what the hold of that sum in a sandbox is worth. -/
noncomputable def Try.pinned : Pinned := { name := "ytgcfiiidhihkaaa", sum := "f6a87ee3de82cdd2d833d3cc41b412a90ca63e8febc6785cc25bd9447fc53b22", checked := Try.checked }
namespace Rows
def none {H : Type} : Left H := { results := [], args := [] }

/-- 'bailifflaw04.SlabFull': WHATEVER THE INPUT: true; the input reads as it did. -/
def slabFullSpec : ChangeSpec := { name := "slabFull", fn := fun _ => fun
  | [d1, d2] => { results := [.lit (.bool true)], args := [d1, d2] }
  | _ => none }
def slabFullRow : OpenClaim := { program := "ytgcfiiidhihkaaa", sum := "f6a87ee3de82cdd2d833d3cc41b412a90ca63e8febc6785cc25bd9447fc53b22", func := "bailiff/bailifflaw04.SlabFull", spec := "slabFull", apart := false }
def SlabFullSaid : Prop := slabFullRow.holds Try.pinned (OpenSpec.ofChange slabFullSpec)

/-- ITS FALSE NEIGHBOUR: 'it returns false'. Refute it at one input. -/
def slabFullWrong : ChangeSpec := { name := "slabFull", fn := fun _ => fun
  | [d1, d2] => { results := [.lit (.bool false)], args := [d1, d2] }
  | _ => none }
def SlabFullWrongFalsely : Prop := slabFullRow.holds Try.pinned (OpenSpec.ofChange slabFullWrong)

/-- 'bailifflaw04.SlabKeeps': WHATEVER THE INPUT: true; the input reads as it did. -/
def slabKeepsSpec : ChangeSpec := { name := "slabKeeps", fn := fun _ => fun
  | [d1, d2] => { results := [.lit (.bool true)], args := [d1, d2] }
  | _ => none }
def slabKeepsRow : OpenClaim := { program := "ytgcfiiidhihkaaa", sum := "f6a87ee3de82cdd2d833d3cc41b412a90ca63e8febc6785cc25bd9447fc53b22", func := "bailiff/bailifflaw04.SlabKeeps", spec := "slabKeeps", apart := false }
def SlabKeepsSaid : Prop := slabKeepsRow.holds Try.pinned (OpenSpec.ofChange slabKeepsSpec)

/-- ITS FALSE NEIGHBOUR: 'it returns false'. Refute it at one input. -/
def slabKeepsWrong : ChangeSpec := { name := "slabKeeps", fn := fun _ => fun
  | [d1, d2] => { results := [.lit (.bool false)], args := [d1, d2] }
  | _ => none }
def SlabKeepsWrongFalsely : Prop := slabKeepsRow.holds Try.pinned (OpenSpec.ofChange slabKeepsWrong)

/-- 'bailifflaw04.SlabNone': WHATEVER THE INPUT: true; the input reads as it did. -/
def slabNoneSpec : ChangeSpec := { name := "slabNone", fn := fun _ => fun
  | [d1, d2] => { results := [.lit (.bool true)], args := [d1, d2] }
  | _ => none }
def slabNoneRow : OpenClaim := { program := "ytgcfiiidhihkaaa", sum := "f6a87ee3de82cdd2d833d3cc41b412a90ca63e8febc6785cc25bd9447fc53b22", func := "bailiff/bailifflaw04.SlabNone", spec := "slabNone", apart := false }
def SlabNoneSaid : Prop := slabNoneRow.holds Try.pinned (OpenSpec.ofChange slabNoneSpec)

/-- ITS FALSE NEIGHBOUR: 'it returns false'. Refute it at one input. -/
def slabNoneWrong : ChangeSpec := { name := "slabNone", fn := fun _ => fun
  | [d1, d2] => { results := [.lit (.bool false)], args := [d1, d2] }
  | _ => none }
def SlabNoneWrongFalsely : Prop := slabNoneRow.holds Try.pinned (OpenSpec.ofChange slabNoneWrong)

/-- 'bailifflaw05.ChainNone': WHATEVER THE INPUT: true; the input reads as it did. -/
def chainNoneSpec : ChangeSpec := { name := "chainNone", fn := fun _ => fun
  | [d1, d2, d3] => { results := [.lit (.bool true)], args := [d1, d2, d3] }
  | _ => none }
def chainNoneRow : OpenClaim := { program := "ytgcfiiidhihkaaa", sum := "f6a87ee3de82cdd2d833d3cc41b412a90ca63e8febc6785cc25bd9447fc53b22", func := "bailiff/bailifflaw05.ChainNone", spec := "chainNone", apart := false }
def ChainNoneSaid : Prop := chainNoneRow.holds Try.pinned (OpenSpec.ofChange chainNoneSpec)

/-- ITS FALSE NEIGHBOUR: 'it returns false'. Refute it at one input. -/
def chainNoneWrong : ChangeSpec := { name := "chainNone", fn := fun _ => fun
  | [d1, d2, d3] => { results := [.lit (.bool false)], args := [d1, d2, d3] }
  | _ => none }
def ChainNoneWrongFalsely : Prop := chainNoneRow.holds Try.pinned (OpenSpec.ofChange chainNoneWrong)

/-- 'bailifflaw04.SlabPlays': WHATEVER THE INPUT: true; the input reads as it did. -/
def slabPlaysSpec : ChangeSpec := { name := "slabPlays", fn := fun _ => fun
  | [d1, d2, d3] => { results := [.lit (.bool true)], args := [d1, d2, d3] }
  | _ => none }
def slabPlaysRow : OpenClaim := { program := "ytgcfiiidhihkaaa", sum := "f6a87ee3de82cdd2d833d3cc41b412a90ca63e8febc6785cc25bd9447fc53b22", func := "bailiff/bailifflaw04.SlabPlays", spec := "slabPlays", apart := false }
def SlabPlaysSaid : Prop := slabPlaysRow.holds Try.pinned (OpenSpec.ofChange slabPlaysSpec)

/-- ITS FALSE NEIGHBOUR: 'it returns false'. Refute it at one input. -/
def slabPlaysWrong : ChangeSpec := { name := "slabPlays", fn := fun _ => fun
  | [d1, d2, d3] => { results := [.lit (.bool false)], args := [d1, d2, d3] }
  | _ => none }
def SlabPlaysWrongFalsely : Prop := slabPlaysRow.holds Try.pinned (OpenSpec.ofChange slabPlaysWrong)

/-- 'bailifflaw05.ChainEnds': WHATEVER THE INPUT: true; the input reads as it did. -/
def chainEndsSpec : ChangeSpec := { name := "chainEnds", fn := fun _ => fun
  | [d] => { results := [.lit (.bool true)], args := [d] }
  | _ => none }
def chainEndsRow : OpenClaim := { program := "ytgcfiiidhihkaaa", sum := "f6a87ee3de82cdd2d833d3cc41b412a90ca63e8febc6785cc25bd9447fc53b22", func := "bailiff/bailifflaw05.ChainEnds", spec := "chainEnds", apart := false }
def ChainEndsSaid : Prop := chainEndsRow.holds Try.pinned (OpenSpec.ofChange chainEndsSpec)

/-- ITS FALSE NEIGHBOUR: 'it returns false'. Refute it at one input. -/
def chainEndsWrong : ChangeSpec := { name := "chainEnds", fn := fun _ => fun
  | [d] => { results := [.lit (.bool false)], args := [d] }
  | _ => none }
def ChainEndsWrongFalsely : Prop := chainEndsRow.holds Try.pinned (OpenSpec.ofChange chainEndsWrong)

/-- 'bailifflaw05.ChainPlays': WHATEVER THE INPUT: true; the input reads as it did. -/
def chainPlaysSpec : ChangeSpec := { name := "chainPlays", fn := fun _ => fun
  | [d1, d2, d3] => { results := [.lit (.bool true)], args := [d1, d2, d3] }
  | _ => none }
def chainPlaysRow : OpenClaim := { program := "ytgcfiiidhihkaaa", sum := "f6a87ee3de82cdd2d833d3cc41b412a90ca63e8febc6785cc25bd9447fc53b22", func := "bailiff/bailifflaw05.ChainPlays", spec := "chainPlays", apart := false }
def ChainPlaysSaid : Prop := chainPlaysRow.holds Try.pinned (OpenSpec.ofChange chainPlaysSpec)

/-- ITS FALSE NEIGHBOUR: 'it returns false'. Refute it at one input. -/
def chainPlaysWrong : ChangeSpec := { name := "chainPlays", fn := fun _ => fun
  | [d1, d2, d3] => { results := [.lit (.bool false)], args := [d1, d2, d3] }
  | _ => none }
def ChainPlaysWrongFalsely : Prop := chainPlaysRow.holds Try.pinned (OpenSpec.ofChange chainPlaysWrong)

/-- 'bailifflaw05.ChainOnce': WHATEVER THE INPUT: true; the input reads as it did. -/
def chainOnceSpec : ChangeSpec := { name := "chainOnce", fn := fun _ => fun
  | [d] => { results := [.lit (.bool true)], args := [d] }
  | _ => none }
def chainOnceRow : OpenClaim := { program := "ytgcfiiidhihkaaa", sum := "f6a87ee3de82cdd2d833d3cc41b412a90ca63e8febc6785cc25bd9447fc53b22", func := "bailiff/bailifflaw05.ChainOnce", spec := "chainOnce", apart := false }
def ChainOnceSaid : Prop := chainOnceRow.holds Try.pinned (OpenSpec.ofChange chainOnceSpec)

/-- ITS FALSE NEIGHBOUR: 'it returns false'. Refute it at one input. -/
def chainOnceWrong : ChangeSpec := { name := "chainOnce", fn := fun _ => fun
  | [d] => { results := [.lit (.bool false)], args := [d] }
  | _ => none }
def ChainOnceWrongFalsely : Prop := chainOnceRow.holds Try.pinned (OpenSpec.ofChange chainOnceWrong)

/-- 'bailifflaw25.StoreFull': WHATEVER THE INPUT: true; the input reads as it did. -/
def storeFullSpec : ChangeSpec := { name := "storeFull", fn := fun _ => fun
  | [d1, d2] => { results := [.lit (.bool true)], args := [d1, d2] }
  | _ => none }
def storeFullRow : OpenClaim := { program := "ytgcfiiidhihkaaa", sum := "f6a87ee3de82cdd2d833d3cc41b412a90ca63e8febc6785cc25bd9447fc53b22", func := "bailiff/bailifflaw25.StoreFull", spec := "storeFull", apart := false }
def StoreFullSaid : Prop := storeFullRow.holds Try.pinned (OpenSpec.ofChange storeFullSpec)

/-- ITS FALSE NEIGHBOUR: 'it returns false'. Refute it at one input. -/
def storeFullWrong : ChangeSpec := { name := "storeFull", fn := fun _ => fun
  | [d1, d2] => { results := [.lit (.bool false)], args := [d1, d2] }
  | _ => none }
def StoreFullWrongFalsely : Prop := storeFullRow.holds Try.pinned (OpenSpec.ofChange storeFullWrong)

/-- 'bailifflaw25.StoreOrder': WHATEVER THE INPUT: true; the input reads as it did. -/
def storeOrderSpec : ChangeSpec := { name := "storeOrder", fn := fun _ => fun
  | [d] => { results := [.lit (.bool true)], args := [d] }
  | _ => none }
def storeOrderRow : OpenClaim := { program := "ytgcfiiidhihkaaa", sum := "f6a87ee3de82cdd2d833d3cc41b412a90ca63e8febc6785cc25bd9447fc53b22", func := "bailiff/bailifflaw25.StoreOrder", spec := "storeOrder", apart := false }
def StoreOrderSaid : Prop := storeOrderRow.holds Try.pinned (OpenSpec.ofChange storeOrderSpec)

/-- ITS FALSE NEIGHBOUR: 'it returns false'. Refute it at one input. -/
def storeOrderWrong : ChangeSpec := { name := "storeOrder", fn := fun _ => fun
  | [d] => { results := [.lit (.bool false)], args := [d] }
  | _ => none }
def StoreOrderWrongFalsely : Prop := storeOrderRow.holds Try.pinned (OpenSpec.ofChange storeOrderWrong)

/-- 'bailifflaw25.StorePlays': WHATEVER THE INPUT: true; the input reads as it did. -/
def storePlaysSpec : ChangeSpec := { name := "storePlays", fn := fun _ => fun
  | [d1, d2, d3] => { results := [.lit (.bool true)], args := [d1, d2, d3] }
  | _ => none }
def storePlaysRow : OpenClaim := { program := "ytgcfiiidhihkaaa", sum := "f6a87ee3de82cdd2d833d3cc41b412a90ca63e8febc6785cc25bd9447fc53b22", func := "bailiff/bailifflaw25.StorePlays", spec := "storePlays", apart := false }
def StorePlaysSaid : Prop := storePlaysRow.holds Try.pinned (OpenSpec.ofChange storePlaysSpec)

/-- ITS FALSE NEIGHBOUR: 'it returns false'. Refute it at one input. -/
def storePlaysWrong : ChangeSpec := { name := "storePlays", fn := fun _ => fun
  | [d1, d2, d3] => { results := [.lit (.bool false)], args := [d1, d2, d3] }
  | _ => none }
def StorePlaysWrongFalsely : Prop := storePlaysRow.holds Try.pinned (OpenSpec.ofChange storePlaysWrong)

/- THE SECOND FORM. 'bulk': how many values and letters a reading holds, each counted each time it is reached (what is shared counts as often as it is met; a slice's spare places count too). A statement '..UptoSaid' is the law's where the arguments, and the package variables that the reading takes, are together of bulk at most 1048576: NARROWER than '..Said'. Prove '..Said' where nothing that the law and all that it calls make is longer than what came in: it says more and counts as full. Else prove '..UptoSaid'. A law counts once. -/
mutual
def uptoBulk {H : Type} : DataW H → Nat
  | .lit (.string bytes) => bytes.length + 1
  | .lit _ => 1
  | .nil => 1
  | .ptr d => uptoBulk d + 1
  | .slice elems spare => uptoBulkAll elems + uptoBulkAll spare + 1
  | .agg parts => uptoBulkAll parts + 1
  | .iface _ d => uptoBulk d + 1
  | .map entries => uptoBulkEntries entries + 1
  | .held _ => 1
def uptoBulkAll {H : Type} : List (DataW H) → Nat
  | [] => 0
  | d :: r => uptoBulk d + uptoBulkAll r
def uptoBulkEntries {H : Type} : List (Lit × DataW H) → Nat
  | [] => 0
  | x :: r => uptoBulkEntry x + uptoBulkEntries r
def uptoBulkEntry {H : Type} : Lit × DataW H → Nat
  | (.string bytes, d) => bytes.length + uptoBulk d + 1
  | (_, d) => uptoBulk d + 1
 end
def uptoSmall : (H : Type) → List (DataW H) → Bool := fun _ ds => decide (uptoBulkAll ds ≤ 1048576)
def OpenSpec.upto (s : _root_.Go.ChangeSpec) : _root_.Go.OpenSpec := { _root_.Go.OpenSpec.ofChange s with cond := some uptoSmall }

/-- 'bailifflaw04.SlabFull', WHERE WHAT IT READS IS OF BULK AT MOST 1048576: true; the input reads as it did. -/
def slabFullUptoRow : OpenClaim := { program := "ytgcfiiidhihkaaa", sum := "f6a87ee3de82cdd2d833d3cc41b412a90ca63e8febc6785cc25bd9447fc53b22", func := "bailiff/bailifflaw04.SlabFull", spec := "slabFull", apart := false, narrowed := true }
def SlabFullUptoSaid : Prop := slabFullUptoRow.holds Try.pinned (OpenSpec.upto slabFullSpec)

/-- 'bailifflaw04.SlabKeeps', WHERE WHAT IT READS IS OF BULK AT MOST 1048576: true; the input reads as it did. -/
def slabKeepsUptoRow : OpenClaim := { program := "ytgcfiiidhihkaaa", sum := "f6a87ee3de82cdd2d833d3cc41b412a90ca63e8febc6785cc25bd9447fc53b22", func := "bailiff/bailifflaw04.SlabKeeps", spec := "slabKeeps", apart := false, narrowed := true }
def SlabKeepsUptoSaid : Prop := slabKeepsUptoRow.holds Try.pinned (OpenSpec.upto slabKeepsSpec)

/-- 'bailifflaw04.SlabNone', WHERE WHAT IT READS IS OF BULK AT MOST 1048576: true; the input reads as it did. -/
def slabNoneUptoRow : OpenClaim := { program := "ytgcfiiidhihkaaa", sum := "f6a87ee3de82cdd2d833d3cc41b412a90ca63e8febc6785cc25bd9447fc53b22", func := "bailiff/bailifflaw04.SlabNone", spec := "slabNone", apart := false, narrowed := true }
def SlabNoneUptoSaid : Prop := slabNoneUptoRow.holds Try.pinned (OpenSpec.upto slabNoneSpec)

/-- 'bailifflaw05.ChainNone', WHERE WHAT IT READS IS OF BULK AT MOST 1048576: true; the input reads as it did. -/
def chainNoneUptoRow : OpenClaim := { program := "ytgcfiiidhihkaaa", sum := "f6a87ee3de82cdd2d833d3cc41b412a90ca63e8febc6785cc25bd9447fc53b22", func := "bailiff/bailifflaw05.ChainNone", spec := "chainNone", apart := false, narrowed := true }
def ChainNoneUptoSaid : Prop := chainNoneUptoRow.holds Try.pinned (OpenSpec.upto chainNoneSpec)

/-- 'bailifflaw04.SlabPlays', WHERE WHAT IT READS IS OF BULK AT MOST 1048576: true; the input reads as it did. -/
def slabPlaysUptoRow : OpenClaim := { program := "ytgcfiiidhihkaaa", sum := "f6a87ee3de82cdd2d833d3cc41b412a90ca63e8febc6785cc25bd9447fc53b22", func := "bailiff/bailifflaw04.SlabPlays", spec := "slabPlays", apart := false, narrowed := true }
def SlabPlaysUptoSaid : Prop := slabPlaysUptoRow.holds Try.pinned (OpenSpec.upto slabPlaysSpec)

/-- 'bailifflaw05.ChainEnds', WHERE WHAT IT READS IS OF BULK AT MOST 1048576: true; the input reads as it did. -/
def chainEndsUptoRow : OpenClaim := { program := "ytgcfiiidhihkaaa", sum := "f6a87ee3de82cdd2d833d3cc41b412a90ca63e8febc6785cc25bd9447fc53b22", func := "bailiff/bailifflaw05.ChainEnds", spec := "chainEnds", apart := false, narrowed := true }
def ChainEndsUptoSaid : Prop := chainEndsUptoRow.holds Try.pinned (OpenSpec.upto chainEndsSpec)

/-- 'bailifflaw05.ChainPlays', WHERE WHAT IT READS IS OF BULK AT MOST 1048576: true; the input reads as it did. -/
def chainPlaysUptoRow : OpenClaim := { program := "ytgcfiiidhihkaaa", sum := "f6a87ee3de82cdd2d833d3cc41b412a90ca63e8febc6785cc25bd9447fc53b22", func := "bailiff/bailifflaw05.ChainPlays", spec := "chainPlays", apart := false, narrowed := true }
def ChainPlaysUptoSaid : Prop := chainPlaysUptoRow.holds Try.pinned (OpenSpec.upto chainPlaysSpec)

/-- 'bailifflaw05.ChainOnce', WHERE WHAT IT READS IS OF BULK AT MOST 1048576: true; the input reads as it did. -/
def chainOnceUptoRow : OpenClaim := { program := "ytgcfiiidhihkaaa", sum := "f6a87ee3de82cdd2d833d3cc41b412a90ca63e8febc6785cc25bd9447fc53b22", func := "bailiff/bailifflaw05.ChainOnce", spec := "chainOnce", apart := false, narrowed := true }
def ChainOnceUptoSaid : Prop := chainOnceUptoRow.holds Try.pinned (OpenSpec.upto chainOnceSpec)

/-- 'bailifflaw25.StoreFull', WHERE WHAT IT READS IS OF BULK AT MOST 1048576: true; the input reads as it did. -/
def storeFullUptoRow : OpenClaim := { program := "ytgcfiiidhihkaaa", sum := "f6a87ee3de82cdd2d833d3cc41b412a90ca63e8febc6785cc25bd9447fc53b22", func := "bailiff/bailifflaw25.StoreFull", spec := "storeFull", apart := false, narrowed := true }
def StoreFullUptoSaid : Prop := storeFullUptoRow.holds Try.pinned (OpenSpec.upto storeFullSpec)

/-- 'bailifflaw25.StoreOrder', WHERE WHAT IT READS IS OF BULK AT MOST 1048576: true; the input reads as it did. -/
def storeOrderUptoRow : OpenClaim := { program := "ytgcfiiidhihkaaa", sum := "f6a87ee3de82cdd2d833d3cc41b412a90ca63e8febc6785cc25bd9447fc53b22", func := "bailiff/bailifflaw25.StoreOrder", spec := "storeOrder", apart := false, narrowed := true }
def StoreOrderUptoSaid : Prop := storeOrderUptoRow.holds Try.pinned (OpenSpec.upto storeOrderSpec)

/-- 'bailifflaw25.StorePlays', WHERE WHAT IT READS IS OF BULK AT MOST 1048576: true; the input reads as it did. -/
def storePlaysUptoRow : OpenClaim := { program := "ytgcfiiidhihkaaa", sum := "f6a87ee3de82cdd2d833d3cc41b412a90ca63e8febc6785cc25bd9447fc53b22", func := "bailiff/bailifflaw25.StorePlays", spec := "storePlays", apart := false, narrowed := true }
def StorePlaysUptoSaid : Prop := storePlaysUptoRow.holds Try.pinned (OpenSpec.upto storePlaysSpec)

end Rows
end Go.Proofs.Ytgcfiiidhihkaaa
