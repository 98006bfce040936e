/- Packets that came in. -/
import Derived.Test.YtgcfiiidhihkaaaStoP
import Derived.Test.YtgcfiiidhihkaaaFlat
namespace Go.Proofs.Ytgcfiiidhihkaaa.C
open Go.RowKit Go.ChangeShapes Go.WideShapes
set_option linter.unusedVariables false
theorem pkt_type : FlatType Try.prog 4 79 = true := by kernel_rfl
theorem pkt_cells : Try.prog.cellsOf 79 = 46 := by kernel_rfl
theorem pkt_shape : (shapeOf Try.prog 4 79)[45]? = some (.int .i64 0) := by kernel_rfl
theorem pkt_guard : Try.prog.eqGuardType Try.prog.depth 79 = false := by kernel_rfl
theorem fits_one : ∀ {s c : List Value}, Fits s c → ∀ v ∈ c, v.oneCell' = true
  | [], [], _, v, hv => by simp at hv
  | s :: ss, c :: cs, h, v, hv => by
    rcases List.mem_cons.1 hv with rfl | hv
    · have h1 := h.1
      unfold fits1 at h1
      split at h1 <;> first | rfl | exact h1.elim
    · exact fits_one h.2 v hv
set_option maxRecDepth 100000 in
theorem pkl_of {cs : Array Value} (hf : Flat Try.prog 79 cs) (hs : Fits (shapeOf Try.prog 4 79) cs.toList) : ∃ n : Int, PkL cs n ∧ -9223372036854775808 ≤ n ∧ n ≤ 9223372036854775807 := by
  have h1 := hf.size
  rw [pkt_cells] at h1
  obtain ⟨v, hv, hfit⟩ := Fits.get 45 hs pkt_shape
  match v, hfit with
  | .int k n, ⟨e, hw⟩ =>
    subst e
    have hb := bounds_i64 hw
    refine ⟨n, ⟨⟨h1, ?_⟩, by simpa using hv⟩, hb.1, hb.2⟩
    exact Array.all_eq_true_iff_forall_mem.2 fun v hv => fits_one hs v (by simpa using hv)
/-- .. != of two packets, at the operation. -/
theorem exec_neq {a : Act} {w : World} {d : Option Nat} {g : Option (Nat × Bool)} {s y : Nat} {ty : TypeId} {pos : String} {after : Array Edge} {xs ys : Array Value} (hx : a.tmps.getD s undef = .agg xs) (hy : a.tmps.getD y undef = .agg ys) (hfx : Flat Try.prog 79 xs) (hfy : Flat Try.prog 79 ys) :
    (execOp a.eval ⟨d, .binOp .neq 79 (.tmp s) (.tmp y) 79, ty, pos, after, g⟩).run Try.prog w = .ok (.value (.bool (!eqA xs ys))) w := by
  have hx' : a.eval (.tmp s) = .agg xs := hx
  have hy' : a.eval (.tmp y) = .agg ys := hy
  have h1 := hfx.equal hfy w
  unfold execOp
  simp [hx', hy', eqGuard, binOp, Sem.run_bind, h1]
theorem exec_neq_self {a : Act} {w : World} {d : Option Nat} {g : Option (Nat × Bool)} {s y : Nat} {ty : TypeId} {pos : String} {after : Array Edge} {xs : Array Value} (hx : a.tmps.getD s undef = .agg xs) (hy : a.tmps.getD y undef = .agg xs) (hfx : Flat Try.prog 79 xs) :
    (execOp a.eval ⟨d, .binOp .neq 79 (.tmp s) (.tmp y) 79, ty, pos, after, g⟩).run Try.prog w = .ok (.value (.bool false)) w := by
  rw [exec_neq hx hy hfx hfx, eqA_self]
  rfl
/-- The packets that came in. -/
def Pkts (w : World) (a : Option Addr) (len : Nat) (F : Nat → Array Value) : Prop :=
  ∀ i, i < len → ∃ (x : Addr) (n : Int), a = some x ∧ x.block < w.heap.size ∧ Flat Try.prog 79 (F i) ∧ PkL (F i) n ∧ (-9223372036854775808 ≤ n ∧ n ≤ 9223372036854775807) ∧ Laid w (x.add (i * 46)) (F i)
set_option maxRecDepth 100000 in
theorem pkts_of {w : World} {a : Option Addr} {len cap : Nat} {F : Nat → Array Value} (h : FRow Try.prog 4 79 w a len cap F) : Pkts w a len F := by
  intro i hi
  obtain ⟨_, _, h0⟩ := h
  obtain ⟨x, hx, hb, hF⟩ := h0 (by omega)
  obtain ⟨hf, hs, hl⟩ := hF i hi
  rw [pkt_cells] at hl
  obtain ⟨n, h1, h2⟩ := pkl_of hf hs
  exact ⟨x, n, hx, hb, hf, h1, h2, hl⟩
theorem laid_pkt {w : World} {p : Addr} {cs : Array Value} (h : Laid w p cs) (hs : cs.size = 46) : (Instr.loadAt 79 (.pointer (some p))).run Try.prog w = .ok (.agg cs) w := by
  have := run_load_laid (P := Try.prog) (t := 79) (by kernel_rfl) (by rw [pkt_size, hs]) h
  simp only [Instr.loadAt, Instr.sureAddr, Sem.run_bind, Sem.run_pure, Result.andThen_ok, this]
theorem laid_len {w : World} {p : Addr} {cs : Array Value} {n : Int} (h : Laid w p cs) (hn : cs[45]? = some (.int .i64 n)) : w.cell? ⟨p.block, p.off + 45, none⟩ = some (.int .i64 n) := by
  have := h 45 _ hn
  unfold Addr.add at this
  rwa [if_neg (by decide)] at this
theorem laid_keep {w w' : World} {B : Nat} {p : Addr} {i : Nat} {cs : Array Value} (h : Laid w (p.add i) cs) (hb : Below B w w') (hp : p.block < B) : Laid w' (p.add i) cs := h.below hb (by have : (p.add i).block = p.block := by { unfold Addr.add; split <;> rfl }; omega)
section
variable {H : Type} {enc : TypeId × Value → H} {w : World} {base : Nat} {held : Bool}
theorem open_pkts {a : Option Addr} {len cap : Nat} {d : DataW H} {p : List MemPlace} (h : DataW.Trod enc Try.prog w base (fun _ => true) held 83 (.slice a len cap) d p) : (∃ F, Pkts w a len F) ∧ len ≤ 9223372036854775807 := by
  obtain ⟨F, hF⟩ := open_frow Try.underlying83 pkt_type h (by rw [pkt_cells]; decide)
  exact ⟨⟨F, pkts_of hF⟩, by obtain ⟨h1, h2, _⟩ := hF; simp only [maxLen] at h2; omega⟩
end
end Go.Proofs.Ytgcfiiidhihkaaa.C
