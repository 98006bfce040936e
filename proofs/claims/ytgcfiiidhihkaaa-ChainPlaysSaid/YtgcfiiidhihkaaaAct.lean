/- The acts of the chain laws, as they are read. -/
import Derived.Test.YtgcfiiidhihkaaaFlat
import Derived.Test.YtgcfiiidhihkaaaProg
import Derived.KernelRfl
namespace Go.Proofs.Ytgcfiiidhihkaaa.C
open Go.RowKit Go.ChangeShapes Go.WideShapes

theorem act_type : FlatType Try.prog 2 60 = true := by kernel_rfl
theorem act_cells : Try.prog.cellsOf 60 = 3 := by kernel_rfl
theorem act_shape : shapeOf Try.prog 2 60 = [.int .u8 0, .int .i16 0, .int .i16 0] := by kernel_rfl
/-- An act's numbers: kind, line, n. -/
def ActAt (w : World) (x : Addr) (i : Nat) (kd cl n : Int) : Prop :=
  w.cell? (x.add (i * 3)) = some (.int .u8 kd) ∧ w.cell? ⟨(x.add (i * 3)).block, (x.add (i * 3)).off + 1, none⟩ = some (.int .i16 cl) ∧ w.cell? ⟨(x.add (i * 3)).block, (x.add (i * 3)).off + 2, none⟩ = some (.int .i16 n)
theorem add_pos (a : Addr) (j : Nat) (h : j ≠ 0) : a.add j = ⟨a.block, a.off + j, none⟩ := by unfold Addr.add; rw [if_neg h]
/-- The acts that came in. -/
def Acts (w : World) (a : Option Addr) (len : Nat) : Prop :=
  ∀ i, i < len → ∃ x kd cl n, a = some x ∧ x.block < w.heap.size ∧ ActAt w x i kd cl n ∧ (0 ≤ kd ∧ kd ≤ 255) ∧ (-32768 ≤ cl ∧ cl ≤ 32767) ∧ (-32768 ≤ n ∧ n ≤ 32767)
set_option maxRecDepth 100000 in
theorem acts_of {w : World} {a : Option Addr} {len cap : Nat} {F : Nat → Array Value} (h : FRow Try.prog 2 60 w a len cap F) : Acts w a len := by
  intro i hi
  obtain ⟨_, _, h0⟩ := h
  obtain ⟨x, hx, hb, hF⟩ := h0 (by omega)
  obtain ⟨_, hf, hl⟩ := hF i hi
  rw [act_shape] at hf
  rw [act_cells] at hl
  match hc : (F i).toList, hf with
  | [.int k1 kd, .int k2 cl, .int k4 n], ⟨⟨e1, w1⟩, ⟨e2, w2⟩, ⟨e4, w4⟩, _⟩ =>
    subst e1 e2 e4
    have hat : ∀ j v, [Value.int .u8 kd, Value.int .i16 cl, Value.int .i16 n][j]? = some v → w.cell? ((x.add (i * 3)).add j) = some v := fun j v hv => hl j v (by rw [← hc] at hv; simpa using hv)
    exact ⟨x, kd, cl, n, hx, hb, ⟨hat 0 _ rfl, by rw [← add_pos _ 1 (by decide)]; exact hat 1 _ rfl, by rw [← add_pos _ 2 (by decide)]; exact hat 2 _ rfl⟩, bounds_u8 w1, bounds_i16 w2, bounds_i16 w4⟩
theorem ActAt.below {w w' : World} {B : Nat} {x : Addr} {i : Nat} {kd cl n : Int} (h : ActAt w x i kd cl n) (hb : Below B w w') (hx : x.block < B) : ActAt w' x i kd cl n := by
  have hbl : ∀ (a : Addr) (m : Nat), (a.add m).block = a.block := fun a m => by unfold Addr.add; split <;> rfl
  unfold ActAt
  rw [hb.cell (by rw [hbl]; exact hx), hb.cell (p := ⟨_, (x.add (i * 3)).off + 1, none⟩) (by rw [hbl]; exact hx), hb.cell (p := ⟨_, (x.add (i * 3)).off + 2, none⟩) (by rw [hbl]; exact hx)]
  exact h
section
variable {H : Type} {enc : TypeId × Value → H} {w : World} {base : Nat} {held : Bool}
theorem open_acts {a : Option Addr} {len cap : Nat} {d : DataW H} {p : List MemPlace} (h : DataW.Trod enc Try.prog w base (fun _ => true) held 54 (.slice a len cap) d p) : Acts w a len ∧ len ≤ 9223372036854775807 := by
  obtain ⟨F, hF⟩ := open_frow Try.underlying54 act_type h (by rw [act_cells]; decide)
  exact ⟨acts_of hF, by obtain ⟨h1, h2, _⟩ := hF; simp only [maxLen] at h2; omega⟩
end
end Go.Proofs.Ytgcfiiidhihkaaa.C
