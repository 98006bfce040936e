/-
  No cell of these rows narrows 'for every input' (looked for: loops, veiled, ifaces, maps, wideKeys, modest, calm, conditions, laid).
  DERIVED. THE GIVEN ROWS OF THIS SEAT. 7 by the template 'for every input the law returns true; each argument reads behind the call as it read before'; 0 by the template 'total and deterministic' (their statements: YtpeedbnboghafaaTotals.lean).
  GIVEN WITH THE SEED: the statements are not yours to turn. If you find one false, say at which input.
  Laid BY PROGRAM, IN A SANDBOX (cutbox-rows.mjs): the forced cells as the released guide's own fill.sh prints them over the translation a0527d2c10fc3943… (all of the seat's roots in one cut). By AI agents, Wed Nov 11 2026. No macro, syntax, notation, axiom, sorry.
-/
import Derived.Test.YtpeedbnboghafaaChecked
import GoSem.Claim
import GoSem.ClaimJoined
import GoSem.ClaimMapViews
import Derived.JoinedTies
import Derived.KernelRfl
namespace Go.Proofs.Ytpeedbnboghafaa
/- THE CELL 'sum', in the pinned program and in every row, IS THE sha256 OF THE DUMP (.gsa) THAT YtpeedbnboghafaaProg.lean LOADS. Nothing in Lean hashes anything: it is a label: what it is worth is what the hold of that sum in a sandbox is worth. -/
noncomputable def Try.pinned : Pinned := { name := "ytpeedbnboghafaa", sum := "a0527d2c10fc3943837ab574e1cdefdee1ac003ab4da50608b979df869156ba9", checked := Try.checked }
namespace Rows
def none {H : Type} : Left H := { results := [], args := [] }

/-- 'bailifflaw03.RingTexts': WHATEVER THE INPUT: true; the input reads as it did. -/
def ringTextsSpec : ChangeSpec := { name := "ringTexts", fn := fun _ => fun
  | [d] => { results := [.lit (.bool true)], args := [d] }
  | _ => none }
def ringTextsRow : OpenClaim := { program := "ytpeedbnboghafaa", sum := "a0527d2c10fc3943837ab574e1cdefdee1ac003ab4da50608b979df869156ba9", func := "bailiff/bailifflaw03.RingTexts", spec := "ringTexts", apart := false }
def RingTextsSaid : Prop := ringTextsRow.holds Try.pinned (OpenSpec.ofChange ringTextsSpec)

/-- ITS FALSE NEIGHBOUR: 'it returns false'. Refute it at one input. -/
def ringTextsWrong : ChangeSpec := { name := "ringTexts", fn := fun _ => fun
  | [d] => { results := [.lit (.bool false)], args := [d] }
  | _ => none }
def RingTextsWrongFalsely : Prop := ringTextsRow.holds Try.pinned (OpenSpec.ofChange ringTextsWrong)

/-- 'bailifflaw03.RingTurns': WHATEVER THE INPUT: true; the input reads as it did. -/
def ringTurnsSpec : ChangeSpec := { name := "ringTurns", fn := fun _ => fun
  | [d1, d2, d3] => { results := [.lit (.bool true)], args := [d1, d2, d3] }
  | _ => none }
def ringTurnsRow : OpenClaim := { program := "ytpeedbnboghafaa", sum := "a0527d2c10fc3943837ab574e1cdefdee1ac003ab4da50608b979df869156ba9", func := "bailiff/bailifflaw03.RingTurns", spec := "ringTurns", apart := false }
def RingTurnsSaid : Prop := ringTurnsRow.holds Try.pinned (OpenSpec.ofChange ringTurnsSpec)

/-- ITS FALSE NEIGHBOUR: 'it returns false'. Refute it at one input. -/
def ringTurnsWrong : ChangeSpec := { name := "ringTurns", fn := fun _ => fun
  | [d1, d2, d3] => { results := [.lit (.bool false)], args := [d1, d2, d3] }
  | _ => none }
def RingTurnsWrongFalsely : Prop := ringTurnsRow.holds Try.pinned (OpenSpec.ofChange ringTurnsWrong)

/-- 'bailifflaw06.MailFull': WHATEVER THE INPUT: true; the input reads as it did. -/
def mailFullSpec : ChangeSpec := { name := "mailFull", fn := fun _ => fun
  | [d1, d2] => { results := [.lit (.bool true)], args := [d1, d2] }
  | _ => none }
def mailFullRow : OpenClaim := { program := "ytpeedbnboghafaa", sum := "a0527d2c10fc3943837ab574e1cdefdee1ac003ab4da50608b979df869156ba9", func := "bailiff/bailifflaw06.MailFull", spec := "mailFull", apart := false }
def MailFullSaid : Prop := mailFullRow.holds Try.pinned (OpenSpec.ofChange mailFullSpec)

/-- ITS FALSE NEIGHBOUR: 'it returns false'. Refute it at one input. -/
def mailFullWrong : ChangeSpec := { name := "mailFull", fn := fun _ => fun
  | [d1, d2] => { results := [.lit (.bool false)], args := [d1, d2] }
  | _ => none }
def MailFullWrongFalsely : Prop := mailFullRow.holds Try.pinned (OpenSpec.ofChange mailFullWrong)

/-- 'bailifflaw06.MailOrder': WHATEVER THE INPUT: true; the input reads as it did. -/
def mailOrderSpec : ChangeSpec := { name := "mailOrder", fn := fun _ => fun
  | [d1, d2] => { results := [.lit (.bool true)], args := [d1, d2] }
  | _ => none }
def mailOrderRow : OpenClaim := { program := "ytpeedbnboghafaa", sum := "a0527d2c10fc3943837ab574e1cdefdee1ac003ab4da50608b979df869156ba9", func := "bailiff/bailifflaw06.MailOrder", spec := "mailOrder", apart := false }
def MailOrderSaid : Prop := mailOrderRow.holds Try.pinned (OpenSpec.ofChange mailOrderSpec)

/-- ITS FALSE NEIGHBOUR: 'it returns false'. Refute it at one input. -/
def mailOrderWrong : ChangeSpec := { name := "mailOrder", fn := fun _ => fun
  | [d1, d2] => { results := [.lit (.bool false)], args := [d1, d2] }
  | _ => none }
def MailOrderWrongFalsely : Prop := mailOrderRow.holds Try.pinned (OpenSpec.ofChange mailOrderWrong)

/-- 'bailifflaw06.MailNil': WHATEVER THE INPUT: true; the input reads as it did. -/
def mailNilSpec : ChangeSpec := { name := "mailNil", fn := fun _ => fun
  | [d1, d2] => { results := [.lit (.bool true)], args := [d1, d2] }
  | _ => none }
def mailNilRow : OpenClaim := { program := "ytpeedbnboghafaa", sum := "a0527d2c10fc3943837ab574e1cdefdee1ac003ab4da50608b979df869156ba9", func := "bailiff/bailifflaw06.MailNil", spec := "mailNil", apart := false }
def MailNilSaid : Prop := mailNilRow.holds Try.pinned (OpenSpec.ofChange mailNilSpec)

/-- ITS FALSE NEIGHBOUR: 'it returns false'. Refute it at one input. -/
def mailNilWrong : ChangeSpec := { name := "mailNil", fn := fun _ => fun
  | [d1, d2] => { results := [.lit (.bool false)], args := [d1, d2] }
  | _ => none }
def MailNilWrongFalsely : Prop := mailNilRow.holds Try.pinned (OpenSpec.ofChange mailNilWrong)

/-- 'bailifflaw03.RingPlays': WHATEVER THE INPUT: true; the input reads as it did. -/
def ringPlaysSpec : ChangeSpec := { name := "ringPlays", fn := fun _ => fun
  | [d1, d2, d3] => { results := [.lit (.bool true)], args := [d1, d2, d3] }
  | _ => none }
def ringPlaysRow : OpenClaim := { program := "ytpeedbnboghafaa", sum := "a0527d2c10fc3943837ab574e1cdefdee1ac003ab4da50608b979df869156ba9", func := "bailiff/bailifflaw03.RingPlays", spec := "ringPlays", apart := false }
def RingPlaysSaid : Prop := ringPlaysRow.holds Try.pinned (OpenSpec.ofChange ringPlaysSpec)

/-- ITS FALSE NEIGHBOUR: 'it returns false'. Refute it at one input. -/
def ringPlaysWrong : ChangeSpec := { name := "ringPlays", fn := fun _ => fun
  | [d1, d2, d3] => { results := [.lit (.bool false)], args := [d1, d2, d3] }
  | _ => none }
def RingPlaysWrongFalsely : Prop := ringPlaysRow.holds Try.pinned (OpenSpec.ofChange ringPlaysWrong)

/-- 'bailifflaw03.RingCuts': WHATEVER THE INPUT: true; the input reads as it did. -/
def ringCutsSpec : ChangeSpec := { name := "ringCuts", fn := fun _ => fun
  | [d1, d2] => { results := [.lit (.bool true)], args := [d1, d2] }
  | _ => none }
def ringCutsRow : OpenClaim := { program := "ytpeedbnboghafaa", sum := "a0527d2c10fc3943837ab574e1cdefdee1ac003ab4da50608b979df869156ba9", func := "bailiff/bailifflaw03.RingCuts", spec := "ringCuts", apart := false }
def RingCutsSaid : Prop := ringCutsRow.holds Try.pinned (OpenSpec.ofChange ringCutsSpec)

/-- ITS FALSE NEIGHBOUR: 'it returns false'. Refute it at one input. -/
def ringCutsWrong : ChangeSpec := { name := "ringCuts", fn := fun _ => fun
  | [d1, d2] => { results := [.lit (.bool false)], args := [d1, d2] }
  | _ => none }
def RingCutsWrongFalsely : Prop := ringCutsRow.holds Try.pinned (OpenSpec.ofChange ringCutsWrong)

/- THE SECOND FORM. 'bulk': how many values and letters a reading holds, each counted each time it is reached (what is shared counts as often as it is met; a slice's spare places count too). A statement '..UptoSaid' is the law's where the arguments, and the package variables that the reading takes, are together of bulk at most 1048576: NARROWER than '..Said'. Prove '..Said' where nothing that the law and all that it calls make is longer than what came in: it says more and counts as full. Else prove '..UptoSaid'. A law counts once. -/
mutual
def uptoBulk {H : Type} : DataW H → Nat
  | .lit (.string bytes) => bytes.length + 1
  | .lit _ => 1
  | .nil => 1
  | .ptr d => uptoBulk d + 1
  | .slice elems spare => uptoBulkAll elems + uptoBulkAll spare + 1
  | .agg parts => uptoBulkAll parts + 1
  | .iface _ d => uptoBulk d + 1
  | .map entries => uptoBulkEntries entries + 1
  | .held _ => 1
def uptoBulkAll {H : Type} : List (DataW H) → Nat
  | [] => 0
  | d :: r => uptoBulk d + uptoBulkAll r
def uptoBulkEntries {H : Type} : List (Lit × DataW H) → Nat
  | [] => 0
  | x :: r => uptoBulkEntry x + uptoBulkEntries r
def uptoBulkEntry {H : Type} : Lit × DataW H → Nat
  | (.string bytes, d) => bytes.length + uptoBulk d + 1
  | (_, d) => uptoBulk d + 1
 end
def uptoSmall : (H : Type) → List (DataW H) → Bool := fun _ ds => decide (uptoBulkAll ds ≤ 1048576)
def OpenSpec.upto (s : _root_.Go.ChangeSpec) : _root_.Go.OpenSpec := { _root_.Go.OpenSpec.ofChange s with cond := some uptoSmall }

/-- 'bailifflaw03.RingTexts', WHERE WHAT IT READS IS OF BULK AT MOST 1048576: true; the input reads as it did. -/
def ringTextsUptoRow : OpenClaim := { program := "ytpeedbnboghafaa", sum := "a0527d2c10fc3943837ab574e1cdefdee1ac003ab4da50608b979df869156ba9", func := "bailiff/bailifflaw03.RingTexts", spec := "ringTexts", apart := false, narrowed := true }
def RingTextsUptoSaid : Prop := ringTextsUptoRow.holds Try.pinned (OpenSpec.upto ringTextsSpec)

/-- 'bailifflaw03.RingTurns', WHERE WHAT IT READS IS OF BULK AT MOST 1048576: true; the input reads as it did. -/
def ringTurnsUptoRow : OpenClaim := { program := "ytpeedbnboghafaa", sum := "a0527d2c10fc3943837ab574e1cdefdee1ac003ab4da50608b979df869156ba9", func := "bailiff/bailifflaw03.RingTurns", spec := "ringTurns", apart := false, narrowed := true }
def RingTurnsUptoSaid : Prop := ringTurnsUptoRow.holds Try.pinned (OpenSpec.upto ringTurnsSpec)

/-- 'bailifflaw06.MailFull', WHERE WHAT IT READS IS OF BULK AT MOST 1048576: true; the input reads as it did. -/
def mailFullUptoRow : OpenClaim := { program := "ytpeedbnboghafaa", sum := "a0527d2c10fc3943837ab574e1cdefdee1ac003ab4da50608b979df869156ba9", func := "bailiff/bailifflaw06.MailFull", spec := "mailFull", apart := false, narrowed := true }
def MailFullUptoSaid : Prop := mailFullUptoRow.holds Try.pinned (OpenSpec.upto mailFullSpec)

/-- 'bailifflaw06.MailOrder', WHERE WHAT IT READS IS OF BULK AT MOST 1048576: true; the input reads as it did. -/
def mailOrderUptoRow : OpenClaim := { program := "ytpeedbnboghafaa", sum := "a0527d2c10fc3943837ab574e1cdefdee1ac003ab4da50608b979df869156ba9", func := "bailiff/bailifflaw06.MailOrder", spec := "mailOrder", apart := false, narrowed := true }
def MailOrderUptoSaid : Prop := mailOrderUptoRow.holds Try.pinned (OpenSpec.upto mailOrderSpec)

/-- 'bailifflaw06.MailNil', WHERE WHAT IT READS IS OF BULK AT MOST 1048576: true; the input reads as it did. -/
def mailNilUptoRow : OpenClaim := { program := "ytpeedbnboghafaa", sum := "a0527d2c10fc3943837ab574e1cdefdee1ac003ab4da50608b979df869156ba9", func := "bailiff/bailifflaw06.MailNil", spec := "mailNil", apart := false, narrowed := true }
def MailNilUptoSaid : Prop := mailNilUptoRow.holds Try.pinned (OpenSpec.upto mailNilSpec)

/-- 'bailifflaw03.RingPlays', WHERE WHAT IT READS IS OF BULK AT MOST 1048576: true; the input reads as it did. -/
def ringPlaysUptoRow : OpenClaim := { program := "ytpeedbnboghafaa", sum := "a0527d2c10fc3943837ab574e1cdefdee1ac003ab4da50608b979df869156ba9", func := "bailiff/bailifflaw03.RingPlays", spec := "ringPlays", apart := false, narrowed := true }
def RingPlaysUptoSaid : Prop := ringPlaysUptoRow.holds Try.pinned (OpenSpec.upto ringPlaysSpec)

/-- 'bailifflaw03.RingCuts', WHERE WHAT IT READS IS OF BULK AT MOST 1048576: true; the input reads as it did. -/
def ringCutsUptoRow : OpenClaim := { program := "ytpeedbnboghafaa", sum := "a0527d2c10fc3943837ab574e1cdefdee1ac003ab4da50608b979df869156ba9", func := "bailiff/bailifflaw03.RingCuts", spec := "ringCuts", apart := false, narrowed := true }
def RingCutsUptoSaid : Prop := ringCutsUptoRow.holds Try.pinned (OpenSpec.upto ringCutsSpec)

end Rows
end Go.Proofs.Ytpeedbnboghafaa
