/- The walk of choke.Match over flows that are read. -/
import Derived.Test.YtflgpbjhjomogaaEach
import Derived.Test.YtflgpbjhjomogaaFlat
import Derived.Deep.QuietTactic
import Derived.BigQuiet
import Derived.Outline
namespace Go.Proofs.Ytflgpbjhjomogaa.C
open Go.RowKit
set_option linter.unusedVariables false

theorem flow_type : FlatType Try.prog 3 32 = true := by kernel_rfl
theorem flow_cells : Try.prog.cellsOf 32 = 36 := by kernel_rfl

theorem flow_guard : Try.prog.eqGuardType Try.prog.depth 32 = false := by kernel_rfl
theorem flow_size : (Try.prog.info? 32).map (·.size) = some 36 := by kernel_rfl
theorem pick_k (d n k : Nat) (w : World) (h : 1 ≤ n) (h2 : n ≤ 9223372036854775807) (hk : Hid (d % n = k)) : Calls Try.prog 11 #[.int .u64 d, .int .i64 n] w fun e w' => e = .returned (.tuple #[.int .i64 k, .bool true]) ∧ w = w' := by
  have := pick_nat d n w h h2
  rwa [hk.out] at this
theorem match_none (d cap : Nat) (a : Option Addr) (fs : Array Value) (w : World) : Calls Try.prog 12 #[.int .u64 d, .slice a 0 cap, .agg fs] w fun e w' => e = .returned (.tuple #[.int .i64 0, .bool false]) ∧ Below w.heap.size w w' := by
  go_enter Try.func12, Try.ntmps12
  go_wp2_with (go_at_call 11; refine (pick_no _ 0 _ (by omega)).mono ?_; rintro e w' ⟨rfl, rfl⟩)
  go_quiet (fail)
  go_wp2
  go_ret2
  exact ⟨rfl, below_drewN ((Below.refl _ _).alloc (Nat.le_refl _) _) _⟩
theorem match_some' (q : Bool) (d len cap k : Nat) (a : Addr) (fs : Array Value) (F : Nat → Array Value) (w : World) (h0 : 1 ≤ len) (hl : len ≤ 9223372036854775807) (hk : Hid (d % len = k)) (hk1 : k < len) (hlt : (a.add (k * 36)).block < w.heap.size) (hfs : Flat Try.prog 32 fs) (hq : Hid (eqA (F k) fs = q))
   (hF : ∀ i, i < len → Flat Try.prog 32 (F i) ∧ Laid w (a.add (i * 36)) (F i)) :
  Calls Try.prog 12 #[.int .u64 d, .slice (some a) len cap, .agg fs] w fun e w' => e = .returned (.tuple #[.int .i64 (if q then (k : Int) else 0), .bool q]) ∧ Below w.heap.size w w' := by
  have hb : decide (len < 1) = false := by simp; omega
  obtain ⟨hFk, hLk⟩ := hF k hk1
  have hLk1 := hLk.below ((Below.refl _ _).alloc (Nat.le_refl w.heap.size) (.cells fs 32)) (by simpa using hlt)
  clear hF
  go_enter Try.func12, Try.ntmps12
  go_wp2_with (go_at_call 11; refine (pick_k _ _ _ _ h0 hl hk).mono ?_; rintro e w' ⟨rfl, rfl⟩)
  refine wp_region_quiet_lit (by kernel_rfl) (by kernel_rfl) ?_
  repeat (first
    | (go_big_quiet_step (fail))
    | (go_big_quiet_want; refine quiet_load rfl _ rfl (F k) (by kernel_rfl) (by rw [hFk.size]; kernel_rfl) (by rintro _ ⟨n, rfl⟩; exact hLk1.drewN n) ?_; go_big_quiet_on; go_frame)
    | (go_big_quiet_want; refine quiet_load rfl _ rfl fs (by kernel_rfl) (by rw [hfs.size]; kernel_rfl) (by rintro _ ⟨n, rfl⟩; exact (laid_new _ _ _).drewN n) ?_; go_big_quiet_on; go_frame)
    | (go_big_quiet_want; refine quiet_neq rfl (F k) fs rfl rfl hFk hfs flow_guard ?_; go_big_quiet_on; go_frame))
  refine wpQuiet_nil ?_
  rintro _ ⟨nq, rfl⟩
  rw [hq.out]
  clear hq
  cases q
  all_goals
    go_wp2
    go_ret2
    exact ⟨rfl, below_drewN ((Below.refl _ _).alloc (Nat.le_refl _) _) _⟩
theorem match_some (d len cap k : Nat) (a : Addr) (fs : Array Value) (F : Nat → Array Value) (w : World) (h0 : 1 ≤ len) (hl : len ≤ 9223372036854775807) (hk : Hid (d % len = k)) (hk1 : k < len) (hlt : (a.add (k * 36)).block < w.heap.size) (hfs : Flat Try.prog 32 fs)
   (hF : ∀ i, i < len → Flat Try.prog 32 (F i) ∧ Laid w (a.add (i * 36)) (F i)) :
  Calls Try.prog 12 #[.int .u64 d, .slice (some a) len cap, .agg fs] w fun e w' => e = .returned (.tuple #[.int .i64 (if eqA (F k) fs then (k : Int) else 0), .bool (eqA (F k) fs)]) ∧ Below w.heap.size w w' := by
  exact match_some' (eqA (F k) fs) d len cap k a fs F w h0 hl hk hk1 hlt hfs rfl hF

section
open Go.ChangeShapes Go.WideShapes
variable {H : Type} {enc : TypeId × Value → H} {w : World} {base : Nat} {held : Bool}
theorem open_flows {a : Option Addr} {len cap : Nat} {d : DataW H} {p : List MemPlace} (h : DataW.Trod enc Try.prog w base (fun _ => true) held 28 (.slice a len cap) d p) : ∃ F, FRow Try.prog 3 32 w a len cap F :=
  open_frow Try.underlying28 flow_type h (by rw [flow_cells]; decide)
theorem open_flow {spare : Nat → Bool} {r : Reach} {b0 : Nat} {v : Value} {d : DataW H} {p : List MemPlace} (hv : Value.okWide Try.prog w r b0 32 v) (h : DataW.Trod enc Try.prog w base spare held 32 v d p) :
    ∃ cs : Array Value, v = .agg cs ∧ Flat Try.prog 32 cs ∧ Fits (shapeOf Try.prog 3 32) cs.toList := open_flat flow_type hv h
noncomputable def zero_flow : Value := .agg (([Value.bool false, Value.int .u8 0] ++ List.replicate 32 (Value.int .u8 0) ++ [Value.int .u16 0, Value.int .u16 0]).toArray)
end
end Go.Proofs.Ytflgpbjhjomogaa.C
