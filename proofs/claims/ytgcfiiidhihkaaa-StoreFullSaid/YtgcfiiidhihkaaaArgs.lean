/- Slices of numbers and of bools that came in, told by lists. -/
import Derived.Test.YtgcfiiidhihkaaaBase
import Derived.Test.YtgcfiiidhihkaaaProg
import Derived.Deep.Slices
import Derived.ChangeSame
import Derived.KernelRfl
namespace Go.Proofs.Ytgcfiiidhihkaaa.C
open Go.RowKit Go.ChangeShapes Go.WideShapes Go.Deep
set_option linter.unusedVariables false

theorem block_add (a : Addr) (n : Nat) : (a.add n).block = a.block := by unfold Addr.add; split <;> rfl
/-- Numbers that came in, told by their list. -/
def Nums (k : IntKind) (w : World) (a : Option Addr) (L : List Int) : Prop := ∀ (i : Nat) (v : Int), L[i]? = some v → ∃ x, a = some x ∧ x.block < w.heap.size ∧ w.cell? (x.add i) = some (.int k v) ∧ (Lit.int k v).wf = true
theorem nums_of {k : IntKind} {w : World} {a : Option Addr} {len cap : Nat} {zs : List Int} (h : IsRow k w a len cap zs) : ∃ L : List Int, L.length = len ∧ Nums k w a L ∧ len ≤ 9223372036854775807 := by
  rcases h with ⟨rfl, rfl, rfl, rfl⟩ | ⟨x, rfl, hl, hc, hz, hcell, hwf⟩
  · exact ⟨[], rfl, fun i v h => by simp at h, by omega⟩
  · refine ⟨zs.take len, by simp; omega, fun i v hv => ?_, by simp only [maxLen] at hc; omega⟩
    have hi : i < len := by
      rcases Nat.lt_or_ge i len with h | h
      · exact h
      · rw [List.getElem?_eq_none (by simp; omega)] at hv; cases hv
    rw [List.getElem?_take_of_lt hi] at hv
    have hz0 : i < zs.length := by omega
    have hc0 := hcell i hz0
    have hb := World.block_lt_of_cell? w _ hc0
    rw [List.getD_eq_getElem?_getD, hv] at hc0
    exact ⟨x, rfl, by rw [← block_add]; exact hb, hc0, hwf v (List.mem_of_getElem? hv)⟩
theorem Nums.below {k : IntKind} {w w' : World} {a : Option Addr} {L : List Int} (h : Nums k w a L) (hb : Below w.heap.size w w') {i : Nat} {v : Int} (hv : L[i]? = some v) : ∃ x, a = some x ∧ w'.cell? (x.add i) = some (.int k v) ∧ (Lit.int k v).wf = true := by
  obtain ⟨x, hx, hlt, hc, hw⟩ := h i v hv
  exact ⟨x, hx, by rw [hb.cell (by rw [block_add]; exact hlt)]; exact hc, hw⟩
/-- Bools that came in. -/
def Bools (w : World) (a : Option Addr) (L : List Bool) : Prop := ∀ (i : Nat) (v : Bool), L[i]? = some v → ∃ x, a = some x ∧ x.block < w.heap.size ∧ w.cell? (x.add i) = some (.bool v)
theorem Bools.below {w w' : World} {a : Option Addr} {L : List Bool} (h : Bools w a L) (hb : Below w.heap.size w w') {i : Nat} {v : Bool} (hv : L[i]? = some v) : ∃ x, a = some x ∧ w'.cell? (x.add i) = some (.bool v) := by
  obtain ⟨x, hx, hlt, hc⟩ := h i v hv
  exact ⟨x, hx, by rw [hb.cell (by rw [block_add]; exact hlt)]; exact hc⟩
section
variable {H : Type} {enc : TypeId × Value → H} {w : World} {base : Nat} {held : Bool}
theorem open_bools {a : Option Addr} {len cap : Nat} {d : DataW H} {p : List MemPlace} (h : DataW.Trod enc Try.prog w base (fun _ => true) held 28 (.slice a len cap) d p) :
    ∃ L : List Bool, L.length = len ∧ Bools w a L ∧ len ≤ 9223372036854775807 := by
  obtain ⟨fuel, hf⟩ := h
  have hC : Try.prog.cellsOf 4 = 1 := by kernel_rfl
  rcases open_slice Try.underlying28 hf with ⟨hcs, _⟩ | ⟨a', len', cap', m', n, D, Pl, hcs, hb, hl, hm, hmm, hx, hi⟩
  · simp [Value.cells] at hcs
    obtain ⟨rfl, rfl, rfl⟩ := hcs
    exact ⟨[], rfl, fun i v h => by simp at h, by omega⟩
  · simp [Value.cells] at hcs
    obtain ⟨rfl, rfl, rfl⟩ := hcs
    have key : ∀ i, i < len → ∃ b : Bool, w.cell? (a'.add i) = some (.bool b) := by
      intro i hil
      obtain ⟨cs', hc, htr⟩ := hi i (by rw [hmm]; simp; omega)
      obtain ⟨b, rfl, _⟩ := DataW.trod_bool Try.underlying4 htr
      obtain ⟨_, hcl, hat⟩ := World.cells?_some hc
      have := hat 0 (by rw [hC]; omega)
      rw [hC, Nat.mul_one] at this
      exact ⟨b, by simpa [Addr.add] using this⟩
    refine ⟨(List.range len).map fun i => if h : i < len then Classical.choose (key i h) else false, by simp, fun i v hv => ?_, by simp only [maxLen] at hm; omega⟩
    have hil : i < len := by
      rcases Nat.lt_or_ge i len with h | h
      · exact h
      · rw [List.getElem?_eq_none (by simp; omega)] at hv; cases hv
    rw [List.getElem?_map, List.getElem?_range hil, Option.map_some, dif_pos hil] at hv
    injection hv with hv
    have := Classical.choose_spec (key i hil)
    rw [hv] at this
    refine ⟨a', rfl, ?_, this⟩
    have := World.block_lt_of_cell? w _ this
    rwa [block_add] at this
end
end Go.Proofs.Ytgcfiiidhihkaaa.C
