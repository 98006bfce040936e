/-
  No cell of these rows narrows 'for every input' (looked for: loops, veiled, ifaces, maps, wideKeys, modest, calm, conditions, laid).
  DERIVED. THE GIVEN ROWS OF THIS SEAT. 5 by the template 'for every input the law returns true; each argument reads behind the call as it read before'; 0 by the template 'total and deterministic' (their statements: YtpanmfdbdgecaaaGreatTotals.lean).
  GIVEN WITH THE SEED: the statements are not yours to turn. If you find one false, say at which input.
  Laid BY PROGRAM, IN A SANDBOX (cutbox-rows.mjs): the forced cells as the released guide's own fill.sh prints them over the translation 4fb6640154c497c9… (all of the seat's roots in one cut). By AI agents, Wed Nov 11 2026. No macro, syntax, notation, axiom, sorry.
-/
import Derived.Test.YtpanmfdbdgecaaaGreatChecked
import GoSem.Claim
import GoSem.ClaimJoined
import GoSem.ClaimMapViews
import Derived.JoinedTies
import Derived.KernelRfl
namespace Go.Proofs.YtpanmfdbdgecaaaGreat
/- THE CELL 'sum', in the pinned program and in every row, IS THE sha256 OF THE DUMP (.gsa) THAT YtpanmfdbdgecaaaGreatProg.lean LOADS. Nothing in Lean hashes anything: it is a label: what it is worth is what the hold of that sum in a sandbox is worth. -/
noncomputable def Tryz.pinned : Pinned := { name := "ytpanmfdbdgecaaagreat", sum := "4fb6640154c497c90478d8a833c020bc78352aa5c687b74ea2b4b9d20cb89705", checked := Tryz.checked }
namespace Rows
def none {H : Type} : Left H := { results := [], args := [] }

/-- 'bailifftop.TopVictim': WHATEVER THE INPUT: true; the input reads as it did. -/
def topVictimSpec : ChangeSpec := { name := "topVictim", fn := fun _ => fun
  | [d1, d2, d3, d4, d5] => { results := [.lit (.bool true)], args := [d1, d2, d3, d4, d5] }
  | _ => none }
def topVictimRow : OpenClaim := { program := "ytpanmfdbdgecaaagreat", sum := "4fb6640154c497c90478d8a833c020bc78352aa5c687b74ea2b4b9d20cb89705", func := "bailiff/bailifftop.TopVictim", spec := "topVictim", inPlace := ["internal/bytealg.Compare"], unfollowed := true, recurses := true, apart := false }
def TopVictimSaid : Prop := topVictimRow.holds Tryz.pinned (OpenSpec.ofChange topVictimSpec)

/-- ITS FALSE NEIGHBOUR: 'it returns false'. Refute it at one input. -/
def topVictimWrong : ChangeSpec := { name := "topVictim", fn := fun _ => fun
  | [d1, d2, d3, d4, d5] => { results := [.lit (.bool false)], args := [d1, d2, d3, d4, d5] }
  | _ => none }
def TopVictimWrongFalsely : Prop := topVictimRow.holds Tryz.pinned (OpenSpec.ofChange topVictimWrong)

/-- 'bailifftop.TopFull': WHATEVER THE INPUT: true; the input reads as it did. -/
def topFullSpec : ChangeSpec := { name := "topFull", fn := fun _ => fun
  | [d1, d2, d3] => { results := [.lit (.bool true)], args := [d1, d2, d3] }
  | _ => none }
def topFullRow : OpenClaim := { program := "ytpanmfdbdgecaaagreat", sum := "4fb6640154c497c90478d8a833c020bc78352aa5c687b74ea2b4b9d20cb89705", func := "bailiff/bailifftop.TopFull", spec := "topFull", inPlace := ["internal/bytealg.Compare"], unfollowed := true, recurses := true, apart := false }
def TopFullSaid : Prop := topFullRow.holds Tryz.pinned (OpenSpec.ofChange topFullSpec)

/-- ITS FALSE NEIGHBOUR: 'it returns false'. Refute it at one input. -/
def topFullWrong : ChangeSpec := { name := "topFull", fn := fun _ => fun
  | [d1, d2, d3] => { results := [.lit (.bool false)], args := [d1, d2, d3] }
  | _ => none }
def TopFullWrongFalsely : Prop := topFullRow.holds Tryz.pinned (OpenSpec.ofChange topFullWrong)

/-- 'bailifftop.TopEnds': WHATEVER THE INPUT: true; the input reads as it did. -/
def topEndsSpec : ChangeSpec := { name := "topEnds", fn := fun _ => fun
  | [d1, d2, d3, d4] => { results := [.lit (.bool true)], args := [d1, d2, d3, d4] }
  | _ => none }
def topEndsRow : OpenClaim := { program := "ytpanmfdbdgecaaagreat", sum := "4fb6640154c497c90478d8a833c020bc78352aa5c687b74ea2b4b9d20cb89705", func := "bailiff/bailifftop.TopEnds", spec := "topEnds", inPlace := ["internal/bytealg.Compare"], unfollowed := true, recurses := true, apart := false }
def TopEndsSaid : Prop := topEndsRow.holds Tryz.pinned (OpenSpec.ofChange topEndsSpec)

/-- ITS FALSE NEIGHBOUR: 'it returns false'. Refute it at one input. -/
def topEndsWrong : ChangeSpec := { name := "topEnds", fn := fun _ => fun
  | [d1, d2, d3, d4] => { results := [.lit (.bool false)], args := [d1, d2, d3, d4] }
  | _ => none }
def TopEndsWrongFalsely : Prop := topEndsRow.holds Tryz.pinned (OpenSpec.ofChange topEndsWrong)

/-- 'bailifftop.TopFair': WHATEVER THE INPUT: true; the input reads as it did. -/
def topFairSpec : ChangeSpec := { name := "topFair", fn := fun _ => fun
  | [d1, d2, d3] => { results := [.lit (.bool true)], args := [d1, d2, d3] }
  | _ => none }
def topFairRow : OpenClaim := { program := "ytpanmfdbdgecaaagreat", sum := "4fb6640154c497c90478d8a833c020bc78352aa5c687b74ea2b4b9d20cb89705", func := "bailiff/bailifftop.TopFair", spec := "topFair", inPlace := ["internal/bytealg.Compare"], unfollowed := true, recurses := true, apart := false }
def TopFairSaid : Prop := topFairRow.holds Tryz.pinned (OpenSpec.ofChange topFairSpec)

/-- ITS FALSE NEIGHBOUR: 'it returns false'. Refute it at one input. -/
def topFairWrong : ChangeSpec := { name := "topFair", fn := fun _ => fun
  | [d1, d2, d3] => { results := [.lit (.bool false)], args := [d1, d2, d3] }
  | _ => none }
def TopFairWrongFalsely : Prop := topFairRow.holds Tryz.pinned (OpenSpec.ofChange topFairWrong)

/-- 'bailifftop.TopTokens': WHATEVER THE INPUT: true; the input reads as it did. -/
def topTokensSpec : ChangeSpec := { name := "topTokens", fn := fun _ => fun
  | [d1, d2, d3, d4] => { results := [.lit (.bool true)], args := [d1, d2, d3, d4] }
  | _ => none }
def topTokensRow : OpenClaim := { program := "ytpanmfdbdgecaaagreat", sum := "4fb6640154c497c90478d8a833c020bc78352aa5c687b74ea2b4b9d20cb89705", func := "bailiff/bailifftop.TopTokens", spec := "topTokens", inPlace := ["internal/bytealg.Compare"], unfollowed := true, recurses := true, apart := false }
def TopTokensSaid : Prop := topTokensRow.holds Tryz.pinned (OpenSpec.ofChange topTokensSpec)

/-- ITS FALSE NEIGHBOUR: 'it returns false'. Refute it at one input. -/
def topTokensWrong : ChangeSpec := { name := "topTokens", fn := fun _ => fun
  | [d1, d2, d3, d4] => { results := [.lit (.bool false)], args := [d1, d2, d3, d4] }
  | _ => none }
def TopTokensWrongFalsely : Prop := topTokensRow.holds Tryz.pinned (OpenSpec.ofChange topTokensWrong)

/- THE SECOND FORM. 'bulk': how many values and letters a reading holds, each counted each time it is reached (what is shared counts as often as it is met; a slice's spare places count too). A statement '..UptoSaid' is the law's where the arguments, and the package variables that the reading takes, are together of bulk at most 1048576: NARROWER than '..Said'. Prove '..Said' where nothing that the law and all that it calls make is longer than what came in: it says more and counts as full. Else prove '..UptoSaid'. A law counts once. -/
mutual
def uptoBulk {H : Type} : DataW H → Nat
  | .lit (.string bytes) => bytes.length + 1
  | .lit _ => 1
  | .nil => 1
  | .ptr d => uptoBulk d + 1
  | .slice elems spare => uptoBulkAll elems + uptoBulkAll spare + 1
  | .agg parts => uptoBulkAll parts + 1
  | .iface _ d => uptoBulk d + 1
  | .map entries => uptoBulkEntries entries + 1
  | .held _ => 1
def uptoBulkAll {H : Type} : List (DataW H) → Nat
  | [] => 0
  | d :: r => uptoBulk d + uptoBulkAll r
def uptoBulkEntries {H : Type} : List (Lit × DataW H) → Nat
  | [] => 0
  | x :: r => uptoBulkEntry x + uptoBulkEntries r
def uptoBulkEntry {H : Type} : Lit × DataW H → Nat
  | (.string bytes, d) => bytes.length + uptoBulk d + 1
  | (_, d) => uptoBulk d + 1
 end
def uptoSmall : (H : Type) → List (DataW H) → Bool := fun _ ds => decide (uptoBulkAll ds ≤ 1048576)
def OpenSpec.upto (s : _root_.Go.ChangeSpec) : _root_.Go.OpenSpec := { _root_.Go.OpenSpec.ofChange s with cond := some uptoSmall }

/-- 'bailifftop.TopVictim', WHERE WHAT IT READS IS OF BULK AT MOST 1048576: true; the input reads as it did. -/
def topVictimUptoRow : OpenClaim := { program := "ytpanmfdbdgecaaagreat", sum := "4fb6640154c497c90478d8a833c020bc78352aa5c687b74ea2b4b9d20cb89705", func := "bailiff/bailifftop.TopVictim", spec := "topVictim", inPlace := ["internal/bytealg.Compare"], unfollowed := true, recurses := true, apart := false, narrowed := true }
def TopVictimUptoSaid : Prop := topVictimUptoRow.holds Tryz.pinned (OpenSpec.upto topVictimSpec)

/-- 'bailifftop.TopFull', WHERE WHAT IT READS IS OF BULK AT MOST 1048576: true; the input reads as it did. -/
def topFullUptoRow : OpenClaim := { program := "ytpanmfdbdgecaaagreat", sum := "4fb6640154c497c90478d8a833c020bc78352aa5c687b74ea2b4b9d20cb89705", func := "bailiff/bailifftop.TopFull", spec := "topFull", inPlace := ["internal/bytealg.Compare"], unfollowed := true, recurses := true, apart := false, narrowed := true }
def TopFullUptoSaid : Prop := topFullUptoRow.holds Tryz.pinned (OpenSpec.upto topFullSpec)

/-- 'bailifftop.TopEnds', WHERE WHAT IT READS IS OF BULK AT MOST 1048576: true; the input reads as it did. -/
def topEndsUptoRow : OpenClaim := { program := "ytpanmfdbdgecaaagreat", sum := "4fb6640154c497c90478d8a833c020bc78352aa5c687b74ea2b4b9d20cb89705", func := "bailiff/bailifftop.TopEnds", spec := "topEnds", inPlace := ["internal/bytealg.Compare"], unfollowed := true, recurses := true, apart := false, narrowed := true }
def TopEndsUptoSaid : Prop := topEndsUptoRow.holds Tryz.pinned (OpenSpec.upto topEndsSpec)

/-- 'bailifftop.TopFair', WHERE WHAT IT READS IS OF BULK AT MOST 1048576: true; the input reads as it did. -/
def topFairUptoRow : OpenClaim := { program := "ytpanmfdbdgecaaagreat", sum := "4fb6640154c497c90478d8a833c020bc78352aa5c687b74ea2b4b9d20cb89705", func := "bailiff/bailifftop.TopFair", spec := "topFair", inPlace := ["internal/bytealg.Compare"], unfollowed := true, recurses := true, apart := false, narrowed := true }
def TopFairUptoSaid : Prop := topFairUptoRow.holds Tryz.pinned (OpenSpec.upto topFairSpec)

/-- 'bailifftop.TopTokens', WHERE WHAT IT READS IS OF BULK AT MOST 1048576: true; the input reads as it did. -/
def topTokensUptoRow : OpenClaim := { program := "ytpanmfdbdgecaaagreat", sum := "4fb6640154c497c90478d8a833c020bc78352aa5c687b74ea2b4b9d20cb89705", func := "bailiff/bailifftop.TopTokens", spec := "topTokens", inPlace := ["internal/bytealg.Compare"], unfollowed := true, recurses := true, apart := false, narrowed := true }
def TopTokensUptoSaid : Prop := topTokensUptoRow.holds Tryz.pinned (OpenSpec.upto topTokensSpec)

end Rows
end Go.Proofs.YtpanmfdbdgecaaaGreat
