/-
  No cell of these rows narrows 'for every input' (looked for: loops, veiled, ifaces, maps, wideKeys, modest, calm, conditions, laid).
  DERIVED. THE GIVEN ROWS OF THIS SEAT. 7 by the template 'for every input the law returns true; each argument reads behind the call as it read before'; 0 by the template 'total and deterministic' (their statements: YtflgpbjhjomogaaTotals.lean).
  GIVEN WITH THE SEED: the statements are not yours to turn. If you find one false, say at which input.
  Laid BY PROGRAM, IN A SANDBOX (cutbox-rows.mjs): the forced cells as the released guide's own fill.sh prints them over the translation 14a0da263df7e9bd… (all of the seat's roots in one cut). By AI agents, Wed Nov 11 2026. No macro, syntax, notation, axiom, sorry.
-/
import Derived.Test.YtflgpbjhjomogaaChecked
import GoSem.Claim
import GoSem.ClaimJoined
import GoSem.ClaimMapViews
import Derived.JoinedTies
import Derived.KernelRfl
namespace Go.Proofs.Ytflgpbjhjomogaa
/- THE CELL 'sum', in the pinned program and in every row, IS THE sha256 OF THE DUMP (.gsa) THAT YtflgpbjhjomogaaProg.lean LOADS. Nothing in Lean hashes anything: it is a label: what it is worth is what the hold of that sum in a sandbox is worth. -/
noncomputable def Try.pinned : Pinned := { name := "ytflgpbjhjomogaa", sum := "14a0da263df7e9bd908e5fa26de1394f88b0604a2f4e474664d6b0ae7b03fce6", checked := Try.checked }
namespace Rows
def none {H : Type} : Left H := { results := [], args := [] }

/-- 'bailifflaw23.ChokeEach': WHATEVER THE INPUT: true; the input reads as it did. -/
def chokeEachSpec : ChangeSpec := { name := "chokeEach", fn := fun _ => fun
  | [d1, d2] => { results := [.lit (.bool true)], args := [d1, d2] }
  | _ => none }
def chokeEachRow : OpenClaim := { program := "ytflgpbjhjomogaa", sum := "14a0da263df7e9bd908e5fa26de1394f88b0604a2f4e474664d6b0ae7b03fce6", func := "bailiff/bailifflaw23.ChokeEach", spec := "chokeEach", apart := false }
def ChokeEachSaid : Prop := chokeEachRow.holds Try.pinned (OpenSpec.ofChange chokeEachSpec)

/-- ITS FALSE NEIGHBOUR: 'it returns false'. Refute it at one input. -/
def chokeEachWrong : ChangeSpec := { name := "chokeEach", fn := fun _ => fun
  | [d1, d2] => { results := [.lit (.bool false)], args := [d1, d2] }
  | _ => none }
def ChokeEachWrongFalsely : Prop := chokeEachRow.holds Try.pinned (OpenSpec.ofChange chokeEachWrong)

/-- 'bailifflaw23.ChokePicks': WHATEVER THE INPUT: true; the input reads as it did. -/
def chokePicksSpec : ChangeSpec := { name := "chokePicks", fn := fun _ => fun
  | [d1, d2, d3, d4] => { results := [.lit (.bool true)], args := [d1, d2, d3, d4] }
  | _ => none }
def chokePicksRow : OpenClaim := { program := "ytflgpbjhjomogaa", sum := "14a0da263df7e9bd908e5fa26de1394f88b0604a2f4e474664d6b0ae7b03fce6", func := "bailiff/bailifflaw23.ChokePicks", spec := "chokePicks", apart := false }
def ChokePicksSaid : Prop := chokePicksRow.holds Try.pinned (OpenSpec.ofChange chokePicksSpec)

/-- ITS FALSE NEIGHBOUR: 'it returns false'. Refute it at one input. -/
def chokePicksWrong : ChangeSpec := { name := "chokePicks", fn := fun _ => fun
  | [d1, d2, d3, d4] => { results := [.lit (.bool false)], args := [d1, d2, d3, d4] }
  | _ => none }
def ChokePicksWrongFalsely : Prop := chokePicksRow.holds Try.pinned (OpenSpec.ofChange chokePicksWrong)

/-- 'bailifflaw23.ChokeNever': WHATEVER THE INPUT: true; the input reads as it did. -/
def chokeNeverSpec : ChangeSpec := { name := "chokeNever", fn := fun _ => fun
  | [d1, d2, d3] => { results := [.lit (.bool true)], args := [d1, d2, d3] }
  | _ => none }
def chokeNeverRow : OpenClaim := { program := "ytflgpbjhjomogaa", sum := "14a0da263df7e9bd908e5fa26de1394f88b0604a2f4e474664d6b0ae7b03fce6", func := "bailiff/bailifflaw23.ChokeNever", spec := "chokeNever", apart := false }
def ChokeNeverSaid : Prop := chokeNeverRow.holds Try.pinned (OpenSpec.ofChange chokeNeverSpec)

/-- ITS FALSE NEIGHBOUR: 'it returns false'. Refute it at one input. -/
def chokeNeverWrong : ChangeSpec := { name := "chokeNever", fn := fun _ => fun
  | [d1, d2, d3] => { results := [.lit (.bool false)], args := [d1, d2, d3] }
  | _ => none }
def ChokeNeverWrongFalsely : Prop := chokeNeverRow.holds Try.pinned (OpenSpec.ofChange chokeNeverWrong)

/-- 'bailifflaw14.QuotaReserves': WHATEVER THE INPUT: true; the input reads as it did. -/
def quotaReservesSpec : ChangeSpec := { name := "quotaReserves", fn := fun _ => fun
  | [d1, d2, d3, d4] => { results := [.lit (.bool true)], args := [d1, d2, d3, d4] }
  | _ => none }
def quotaReservesRow : OpenClaim := { program := "ytflgpbjhjomogaa", sum := "14a0da263df7e9bd908e5fa26de1394f88b0604a2f4e474664d6b0ae7b03fce6", func := "bailiff/bailifflaw14.QuotaReserves", spec := "quotaReserves", apart := false }
def QuotaReservesSaid : Prop := quotaReservesRow.holds Try.pinned (OpenSpec.ofChange quotaReservesSpec)

/-- ITS FALSE NEIGHBOUR: 'it returns false'. Refute it at one input. -/
def quotaReservesWrong : ChangeSpec := { name := "quotaReserves", fn := fun _ => fun
  | [d1, d2, d3, d4] => { results := [.lit (.bool false)], args := [d1, d2, d3, d4] }
  | _ => none }
def QuotaReservesWrongFalsely : Prop := quotaReservesRow.holds Try.pinned (OpenSpec.ofChange quotaReservesWrong)

/-- 'bailifflaw14.QuotaFits': WHATEVER THE INPUT: true; the input reads as it did. -/
def quotaFitsSpec : ChangeSpec := { name := "quotaFits", fn := fun _ => fun
  | [d1, d2, d3, d4, d5, d6] => { results := [.lit (.bool true)], args := [d1, d2, d3, d4, d5, d6] }
  | _ => none }
def quotaFitsRow : OpenClaim := { program := "ytflgpbjhjomogaa", sum := "14a0da263df7e9bd908e5fa26de1394f88b0604a2f4e474664d6b0ae7b03fce6", func := "bailiff/bailifflaw14.QuotaFits", spec := "quotaFits", apart := false }
def QuotaFitsSaid : Prop := quotaFitsRow.holds Try.pinned (OpenSpec.ofChange quotaFitsSpec)

/-- ITS FALSE NEIGHBOUR: 'it returns false'. Refute it at one input. -/
def quotaFitsWrong : ChangeSpec := { name := "quotaFits", fn := fun _ => fun
  | [d1, d2, d3, d4, d5, d6] => { results := [.lit (.bool false)], args := [d1, d2, d3, d4, d5, d6] }
  | _ => none }
def QuotaFitsWrongFalsely : Prop := quotaFitsRow.holds Try.pinned (OpenSpec.ofChange quotaFitsWrong)

/-- 'bailifflaw14.QuotaPlays': WHATEVER THE INPUT: true; the input reads as it did. -/
def quotaPlaysSpec : ChangeSpec := { name := "quotaPlays", fn := fun _ => fun
  | [d1, d2, d3, d4] => { results := [.lit (.bool true)], args := [d1, d2, d3, d4] }
  | _ => none }
def quotaPlaysRow : OpenClaim := { program := "ytflgpbjhjomogaa", sum := "14a0da263df7e9bd908e5fa26de1394f88b0604a2f4e474664d6b0ae7b03fce6", func := "bailiff/bailifflaw14.QuotaPlays", spec := "quotaPlays", apart := false }
def QuotaPlaysSaid : Prop := quotaPlaysRow.holds Try.pinned (OpenSpec.ofChange quotaPlaysSpec)

/-- ITS FALSE NEIGHBOUR: 'it returns false'. Refute it at one input. -/
def quotaPlaysWrong : ChangeSpec := { name := "quotaPlays", fn := fun _ => fun
  | [d1, d2, d3, d4] => { results := [.lit (.bool false)], args := [d1, d2, d3, d4] }
  | _ => none }
def QuotaPlaysWrongFalsely : Prop := quotaPlaysRow.holds Try.pinned (OpenSpec.ofChange quotaPlaysWrong)

/-- 'bailifflaw14.QuotaBack': WHATEVER THE INPUT: true; the input reads as it did. -/
def quotaBackSpec : ChangeSpec := { name := "quotaBack", fn := fun _ => fun
  | [d1, d2, d3, d4, d5, d6] => { results := [.lit (.bool true)], args := [d1, d2, d3, d4, d5, d6] }
  | _ => none }
def quotaBackRow : OpenClaim := { program := "ytflgpbjhjomogaa", sum := "14a0da263df7e9bd908e5fa26de1394f88b0604a2f4e474664d6b0ae7b03fce6", func := "bailiff/bailifflaw14.QuotaBack", spec := "quotaBack", apart := false }
def QuotaBackSaid : Prop := quotaBackRow.holds Try.pinned (OpenSpec.ofChange quotaBackSpec)

/-- ITS FALSE NEIGHBOUR: 'it returns false'. Refute it at one input. -/
def quotaBackWrong : ChangeSpec := { name := "quotaBack", fn := fun _ => fun
  | [d1, d2, d3, d4, d5, d6] => { results := [.lit (.bool false)], args := [d1, d2, d3, d4, d5, d6] }
  | _ => none }
def QuotaBackWrongFalsely : Prop := quotaBackRow.holds Try.pinned (OpenSpec.ofChange quotaBackWrong)

/- THE SECOND FORM. 'bulk': how many values and letters a reading holds, each counted each time it is reached (what is shared counts as often as it is met; a slice's spare places count too). A statement '..UptoSaid' is the law's where the arguments, and the package variables that the reading takes, are together of bulk at most 1048576: NARROWER than '..Said'. Prove '..Said' where nothing that the law and all that it calls make is longer than what came in: it says more and counts as full. Else prove '..UptoSaid'. A law counts once. -/
mutual
def uptoBulk {H : Type} : DataW H → Nat
  | .lit (.string bytes) => bytes.length + 1
  | .lit _ => 1
  | .nil => 1
  | .ptr d => uptoBulk d + 1
  | .slice elems spare => uptoBulkAll elems + uptoBulkAll spare + 1
  | .agg parts => uptoBulkAll parts + 1
  | .iface _ d => uptoBulk d + 1
  | .map entries => uptoBulkEntries entries + 1
  | .held _ => 1
def uptoBulkAll {H : Type} : List (DataW H) → Nat
  | [] => 0
  | d :: r => uptoBulk d + uptoBulkAll r
def uptoBulkEntries {H : Type} : List (Lit × DataW H) → Nat
  | [] => 0
  | x :: r => uptoBulkEntry x + uptoBulkEntries r
def uptoBulkEntry {H : Type} : Lit × DataW H → Nat
  | (.string bytes, d) => bytes.length + uptoBulk d + 1
  | (_, d) => uptoBulk d + 1
 end
def uptoSmall : (H : Type) → List (DataW H) → Bool := fun _ ds => decide (uptoBulkAll ds ≤ 1048576)
def OpenSpec.upto (s : _root_.Go.ChangeSpec) : _root_.Go.OpenSpec := { _root_.Go.OpenSpec.ofChange s with cond := some uptoSmall }

/-- 'bailifflaw23.ChokeEach', WHERE WHAT IT READS IS OF BULK AT MOST 1048576: true; the input reads as it did. -/
def chokeEachUptoRow : OpenClaim := { program := "ytflgpbjhjomogaa", sum := "14a0da263df7e9bd908e5fa26de1394f88b0604a2f4e474664d6b0ae7b03fce6", func := "bailiff/bailifflaw23.ChokeEach", spec := "chokeEach", apart := false, narrowed := true }
def ChokeEachUptoSaid : Prop := chokeEachUptoRow.holds Try.pinned (OpenSpec.upto chokeEachSpec)

/-- 'bailifflaw23.ChokePicks', WHERE WHAT IT READS IS OF BULK AT MOST 1048576: true; the input reads as it did. -/
def chokePicksUptoRow : OpenClaim := { program := "ytflgpbjhjomogaa", sum := "14a0da263df7e9bd908e5fa26de1394f88b0604a2f4e474664d6b0ae7b03fce6", func := "bailiff/bailifflaw23.ChokePicks", spec := "chokePicks", apart := false, narrowed := true }
def ChokePicksUptoSaid : Prop := chokePicksUptoRow.holds Try.pinned (OpenSpec.upto chokePicksSpec)

/-- 'bailifflaw23.ChokeNever', WHERE WHAT IT READS IS OF BULK AT MOST 1048576: true; the input reads as it did. -/
def chokeNeverUptoRow : OpenClaim := { program := "ytflgpbjhjomogaa", sum := "14a0da263df7e9bd908e5fa26de1394f88b0604a2f4e474664d6b0ae7b03fce6", func := "bailiff/bailifflaw23.ChokeNever", spec := "chokeNever", apart := false, narrowed := true }
def ChokeNeverUptoSaid : Prop := chokeNeverUptoRow.holds Try.pinned (OpenSpec.upto chokeNeverSpec)

/-- 'bailifflaw14.QuotaReserves', WHERE WHAT IT READS IS OF BULK AT MOST 1048576: true; the input reads as it did. -/
def quotaReservesUptoRow : OpenClaim := { program := "ytflgpbjhjomogaa", sum := "14a0da263df7e9bd908e5fa26de1394f88b0604a2f4e474664d6b0ae7b03fce6", func := "bailiff/bailifflaw14.QuotaReserves", spec := "quotaReserves", apart := false, narrowed := true }
def QuotaReservesUptoSaid : Prop := quotaReservesUptoRow.holds Try.pinned (OpenSpec.upto quotaReservesSpec)

/-- 'bailifflaw14.QuotaFits', WHERE WHAT IT READS IS OF BULK AT MOST 1048576: true; the input reads as it did. -/
def quotaFitsUptoRow : OpenClaim := { program := "ytflgpbjhjomogaa", sum := "14a0da263df7e9bd908e5fa26de1394f88b0604a2f4e474664d6b0ae7b03fce6", func := "bailiff/bailifflaw14.QuotaFits", spec := "quotaFits", apart := false, narrowed := true }
def QuotaFitsUptoSaid : Prop := quotaFitsUptoRow.holds Try.pinned (OpenSpec.upto quotaFitsSpec)

/-- 'bailifflaw14.QuotaPlays', WHERE WHAT IT READS IS OF BULK AT MOST 1048576: true; the input reads as it did. -/
def quotaPlaysUptoRow : OpenClaim := { program := "ytflgpbjhjomogaa", sum := "14a0da263df7e9bd908e5fa26de1394f88b0604a2f4e474664d6b0ae7b03fce6", func := "bailiff/bailifflaw14.QuotaPlays", spec := "quotaPlays", apart := false, narrowed := true }
def QuotaPlaysUptoSaid : Prop := quotaPlaysUptoRow.holds Try.pinned (OpenSpec.upto quotaPlaysSpec)

/-- 'bailifflaw14.QuotaBack', WHERE WHAT IT READS IS OF BULK AT MOST 1048576: true; the input reads as it did. -/
def quotaBackUptoRow : OpenClaim := { program := "ytflgpbjhjomogaa", sum := "14a0da263df7e9bd908e5fa26de1394f88b0604a2f4e474664d6b0ae7b03fce6", func := "bailiff/bailifflaw14.QuotaBack", spec := "quotaBack", apart := false, narrowed := true }
def QuotaBackUptoSaid : Prop := quotaBackUptoRow.holds Try.pinned (OpenSpec.upto quotaBackSpec)

end Rows
end Go.Proofs.Ytflgpbjhjomogaa
