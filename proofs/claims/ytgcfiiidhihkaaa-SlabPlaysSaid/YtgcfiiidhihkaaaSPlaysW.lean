/- SlabPlays, its arguments in their order. -/
import Derived.Test.YtgcfiiidhihkaaaSPlays
namespace Go.Proofs.Ytgcfiiidhihkaaa.C
open Go.RowKit
theorem walk_slabplays (n : Int) (a : Option Addr) (len cap : Nat) (zs : List Int) (bb : Option Addr) (lb cb : Nat) (ys : List Int) (w : World) (hn : (Lit.int .i64 n).wf = true) (hK : IsRow .u8 w a len cap zs) (hL : IsRow .i16 w bb lb cb ys) :
    Calls Try.prog 7 #[.int .i64 n, .slice a len cap, .slice bb lb cb] w fun e w' => e = .returned (.bool true) ∧ Below w.heap.size w w' :=
  walk_splays n a bb len cap lb cb zs ys w hn hK hL
end Go.Proofs.Ytgcfiiidhihkaaa.C
