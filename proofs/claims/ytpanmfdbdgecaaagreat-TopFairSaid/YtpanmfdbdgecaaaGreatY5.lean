/- Inet: a packet of IPv4 is parsed. · Ports of UDP; where a flow comes from. · Frames: nothing is too short; a packet of IPv4, of UDP. · A frame of a flow of UDP, so long. · SipHash: its rounds. · SipHash: numbers of bytes, words; a copy of the parts. · SipHash: the sum. · Prefixes of IPv4: their equality. · The box's table: where a prefix is. -/
import Derived.Test.YtpanmfdbdgecaaaGreatY4
import Derived.Deep.RegionLaw
import Derived.Laws.CopyOwn
import Derived.Lib.AppendZerosOnto
import Derived.StillTailTactics
namespace Go.Proofs.YtpanmfdbdgecaaaGreat.C
open Go.RowKit
set_option linter.unusedVariables false
/-! Boxes of whatever struct: whole stores, whole loads, steps of a region that draws its order. -/
theorem box_store {t : TypeId} {w : World} {b : Nat} {C x : Array Value} {t' : TypeId} (h : w.heap[b]? = some (.cells C t' (0, 0))) (hi : (Tryz.prog.info? t).map (·.size) = some x.size) (h1 : x.all (·.oneCell') = true) (hC : C.size = x.size) : (Instr.storeAt t (.pointer (some ⟨b, 0, none⟩)) (.agg x)).run Tryz.prog w = .ok () (w.setCells b 0 x.toList) :=
  run_storeAt_mid (P := Tryz.prog) w b 0 t x (there_of_block h (by omega)) hi h1
theorem box_load {t : TypeId} {w : World} {b : Nat} {x : Array Value} {t' : TypeId} (h : w.heap[b]? = some (.cells x t' (0, 0))) (d : TypeDesc) (hd : Tryz.prog.underlying t = some d) (hr : d.isRow = true) (hi : (Tryz.prog.info? t).map (·.size) = some x.size) : (Instr.loadAt t (.pointer (some ⟨b, 0, none⟩))).run Tryz.prog w = .ok (.agg x) w := by
  have := run_loadAt_mid (P := Tryz.prog) w b 0 t x.toList d (range_of_block h fun j v hv => by simpa using hv) hd hr (by rw [hi, Array.length_toList])
  simpa using this
section
variable {P : Program} {ops : Array Oper} {a : Act} {w : World} {K : Act → World → Prop} {Q : Exit → Act → World → Prop} {E : Prop} {ty : TypeId} {pos : String} {after : Array Edge}
theorem step_store (s y : Nat) (t : TypeId) (p v : Value) (w' : World) (hl : (Instr.storeAt t p v).run P w = .ok () w') (hx : a.tmps.getD s undef = p) (hy : a.tmps.getD y undef = v) (h : K (a.put none undef) w') :
    if Region.wanted ⟨none, .store t (.tmp s) (.tmp y), ty, pos, after, none⟩ (yielded ops a.tmps) = true then Oper.wp P ⟨none, .store t (.tmp s) (.tmp y), ty, pos, after, none⟩ a w K Q else E := by
  rw [if_pos (by simp [Region.wanted])]
  have hx' : a.eval (.tmp s) = p := hx
  have hy' : a.eval (.tmp y) = v := hy
  unfold Oper.wp execOp
  simp only [hx', hy', Sem.run_bind, hl, Result.andThen_ok, Sem.run_pure]
  exact h
theorem step_alloc (d : Nat) (t : TypeId) (Z : Array Value) (n : Nat) (hz : (P.info? t).map (fun i => (i.zero, i.size)) = some (some (.agg Z), n))
    (h : ∀ W, Hid (Below w.heap.size w W) → Hid (W.heap[w.heap.size]? = some (.cells Z t (0, 0))) → Hid (W.heap.size = w.heap.size + 1) → K (a.put (some d) (.pointer (some ⟨w.heap.size, 0, none⟩))) W) :
    if Region.wanted ⟨some d, .alloc t, ty, pos, after, none⟩ (yielded ops a.tmps) = true then Oper.wp P ⟨some d, .alloc t, ty, pos, after, none⟩ a w K Q else E := by
  rw [if_pos (by simp [Region.wanted])]
  unfold Oper.wp execOp
  simp only [Sem.run_bind, run_alloc_of hz, Result.andThen_ok, Sem.run_pure]
  exact h _ (Lib.hid ((Below.refl _ _).alloc (Nat.le_refl _) _)) (Lib.hid (Go.heap_alloc_new _ _)) (Lib.hid (by simp))
end
theorem OW.setCells {w : World} {base n : Nat} {e : TypeId} {size : Nat} {v : Value} {xs : List Value} {b j : Nat} (o : w.ownsRow base e size v n xs) (h : v.ownBlock ≠ some b) (cs : List Value) : (w.setCells b j cs).ownsRow base e size v n xs := by
  refine ⟨o.1, ?_⟩
  rcases o.2 with h0 | ⟨q, cp, cur, rfl, hg, hh, r⟩
  · exact .inl h0
  · refine .inr ⟨q, cp, cur, rfl, hg, ?_, r⟩
    rw [heap_setCells_other _ _ _ _ _ (by simp [Value.ownBlock] at h; simpa using h)]
    exact hh
theorem OW.mono {w : World} {base base' n : Nat} {e : TypeId} {size : Nat} {v : Value} {xs : List Value} (o : w.ownsRow base e size v n xs) (h : base' ≤ base) : w.ownsRow base' e size v n xs := by
  refine ⟨o.1, ?_⟩
  rcases o.2 with h0 | ⟨q, cp, cur, rfl, hg, r⟩
  · exact .inl h0
  · exact .inr ⟨q, cp, cur, rfl, Nat.le_trans h hg, r⟩
/-- A frame's bytes as they lie. -/
structure FrAt (w : World) (g o n c : Nat) (B : Nat → Nat) : Prop where
  cell : ∀ j, j < n → w.cell? ⟨g, o + j, none⟩ = some (.int .u8 (B j : Nat))
  byte : ∀ j, B j < 256
  cap : n ≤ c ∧ c ≤ maxLen
  blk : g < w.heap.size
theorem FrAt.below {w w' : World} {base g o n c : Nat} {B : Nat → Nat} (h : FrAt w g o n c B) (hg : g < base) (p : Below base w w') (hs : base ≤ w.heap.size) : FrAt w' g o n c B :=
  ⟨fun j hj => by rw [World.cell?_of_block (p.block g hg)]; exact h.cell j hj, h.byte, h.cap, Nat.lt_of_lt_of_le h.blk p.size⟩
end Go.Proofs.YtpanmfdbdgecaaaGreat.C

namespace Go.Proofs.YtpanmfdbdgecaaaGreat.C
open Go.RowKit
set_option linter.unusedVariables false
def PfZ : Array Value := #[.bool false, .int .u8 0, .int .u8 0, .int .u8 0, .int .u8 0, .int .u8 0, .int .u8 0, .int .u8 0]
theorem pfz_zero : (Tryz.prog.info? 65).map (fun i => (i.zero, i.size)) = some (some (.agg PfZ), 8) := by kernel_rfl
theorem pfz_one : PfZ.all (·.oneCell') = true := by kernel_rfl
theorem pf_size : (Tryz.prog.info? 65).map (·.size) = some 8 := by kernel_rfl
theorem build_pf (w : World) : (Instr.build 65 #[(0, .bool false)]).run Tryz.prog w = .ok (.agg PfZ) w := run_build w 65 _ _ (by kernel_rfl)
/-- The prefix of IPv4's three bytes. -/
def pfx (s0 s1 s2 : Nat) : Array Value := #[.bool false, .int .u8 (s0 : Nat), .int .u8 (s1 : Nat), .int .u8 (s2 : Nat), .int .u8 0, .int .u8 0, .int .u8 0, .int .u8 0]
end Go.Proofs.YtpanmfdbdgecaaaGreat.C

namespace Go.Proofs.YtpanmfdbdgecaaaGreat.C
open Go.RowKit
set_option linter.unusedVariables false
theorem pk_size : (Tryz.prog.info? 68).map (·.size) = some PZ.size := by kernel_rfl
set_option maxRecDepth 100000 in
theorem frame_nil (w : World) : Calls Tryz.prog 30 #[.slice none 0 0] w fun e w' => e = .returned (.tuple #[.agg PZ, .int .i64 1]) ∧ Below w.heap.size w w' := by
  have hz := pz_zero
  have hzs := pk_size
  have hz1 := pk_zero
  have hzb : ∀ w : World, (Instr.build 68 #[]).run Tryz.prog w = .ok (.agg PZ) w := fun w => run_build w 68 _ _ pz_built
  generalize PZ = Z at *
  have HZ := Lib.hid hz
  have HZS := Lib.hid hzs
  have HZ1 := Lib.hid hz1
  have HZB := Lib.hid hzb
  clear hz hzs hz1 hzb
  have C := Lib.hid ether_nil
  go_enter Tryz.func30, Tryz.ntmps30
  go_upto_region 1 with ((with_reducible refine arm_alloc 2 68 Z 46 HZ.out ?_); intro w1 HB HX HS)
  have hlt := HB.out.size
  go_wp2_with fail
  refine (C.out w1).mono ?_
  rintro e w2 ⟨rfl, hb⟩
  have B2 := Lib.hid (HB.out.trans (hb.mono hlt))
  have X2 := Lib.hid (keep_block hb HX.out)
  clear hb C
  have hp := Lib.hid (((Below.refl w2.heap.size w2).alloc (Nat.le_refl _) (.cells #[.bool false, .int .i64 0] 165)))
  go_upto_region 4 with (fail)
  have X3 := keep_block hp.out X2.out
  have hst := box_store (t := 68) (x := Z) X3 HZS.out HZ1.out.one rfl
  have hbx := box_whole (cs := Z) X3 rfl
  have hfb := below_setCells (b := w.heap.size) (Nat.le_refl _) Z.toList 0 (B2.out.trans (hp.out.mono B2.out.size))
  have hbl := HZB.out (w2.alloc (.cells #[.bool false, .int .i64 0] 165))
  have HBX := Lib.hid hbx
  have HFB := Lib.hid hfb
  clear X3 hp hbx hfb B2
  generalize World.setCells _ w.heap.size 0 Z.toList = W9 at *
  generalize w2.alloc (.cells #[.bool false, .int .i64 0] 165) = w3 at *
  go_wp2_with (first | ((with_reducible refine arm_build 22 68 #[] #[] (.agg Z) hbl ?_ ?_); simp) | ((with_reducible refine arm_store 2 22 68 _ _ _ hst ?_ ?_ ?_); rfl; rfl))
  refine bodyPost_ret (results_row_tmp rfl _ _ _ _ _ _ _ rfl HBX.out Tryz.underlying68 rfl HZS.out) rfl ?_
  exact ⟨rfl, HFB.out⟩
/-- The flow of a packet of UDP. -/
def flowX (s0 s1 s2 s3 d0 d1 d2 d3 sp dp : Nat) : Array Value := ([Value.bool false, .int .u8 17, .int .u8 (s0 : Nat), .int .u8 (s1 : Nat), .int .u8 (s2 : Nat), .int .u8 (s3 : Nat)] ++ List.replicate 12 (Value.int .u8 0) ++ [Value.int .u8 (d0 : Nat), Value.int .u8 (d1 : Nat), Value.int .u8 (d2 : Nat), Value.int .u8 (d3 : Nat)] ++ List.replicate 12 (Value.int .u8 0) ++ [Value.int .u16 (sp : Nat), Value.int .u16 (dp : Nat)]).toArray
theorem flow_all (s0 s1 s2 s3 d0 d1 d2 d3 sp dp : Nat) : (flowX s0 s1 s2 s3 d0 d1 d2 d3 sp dp).all (·.oneCell') = true := by kernel_rfl
theorem box_load_mid {t : TypeId} {w : World} {b o : Nat} {x y : Array Value} {t' : TypeId} (h : w.heap[b]? = some (.cells x t' (0, 0))) (hx : ∀ j v, y.toList[j]? = some v → x[o + j]? = some v) (d : TypeDesc) (hd : Tryz.prog.underlying t = some d) (hr : d.isRow = true) (hi : (Tryz.prog.info? t).map (·.size) = some y.size) : (Instr.loadAt t (.pointer (some ⟨b, o, none⟩))).run Tryz.prog w = .ok (.agg y) w := by
  have := run_loadAt_mid (P := Tryz.prog) w b o t y.toList d (range_of_block h hx) hd hr (by rw [hi, Array.length_toList])
  simpa using this
theorem of_extract {x y : Array Value} {o m : Nat} (h : x.extract o (o + m) = y) : ∀ (j : Nat) (v : Value), y.toList[j]? = some v → x[o + j]? = some v := fun j v hv => by
  rw [Array.getElem?_toList, ← h, Array.getElem?_extract] at hv
  split at hv
  · exact hv
  · cases hv
end Go.Proofs.YtpanmfdbdgecaaaGreat.C

namespace Go.Proofs.YtpanmfdbdgecaaaGreat.C
open Go.RowKit
set_option linter.unusedVariables false
end Go.Proofs.YtpanmfdbdgecaaaGreat.C

namespace Go.Proofs.YtpanmfdbdgecaaaGreat.C
open Go.RowKit
set_option linter.unusedVariables false
def rotl13 (x : Int) : Int := bits BinOp.or IntKind.u64 (IntKind.u64.wrap (x * 8192)) (x / 2251799813685248)
theorem rot13 (x : Int) (w : World) : Calls Tryz.prog 198 #[.int .u64 x, .int .i64 13] w fun e w' => e = .returned (.int .u64 (rotl13 x)) ∧ w' = w := by
  have hk : bits BinOp.and IntKind.u64 13 63 = 13 := by decide
  unfold rotl13
  go_enter Tryz.func198, Tryz.ntmps198
  go_wp2
  go_ret
  exact ⟨rfl, rfl⟩
def rotl16 (x : Int) : Int := bits BinOp.or IntKind.u64 (IntKind.u64.wrap (x * 65536)) (x / 281474976710656)
theorem rot16 (x : Int) (w : World) : Calls Tryz.prog 198 #[.int .u64 x, .int .i64 16] w fun e w' => e = .returned (.int .u64 (rotl16 x)) ∧ w' = w := by
  have hk : bits BinOp.and IntKind.u64 16 63 = 16 := by decide
  unfold rotl16
  go_enter Tryz.func198, Tryz.ntmps198
  go_wp2
  go_ret
  exact ⟨rfl, rfl⟩
def rotl17 (x : Int) : Int := bits BinOp.or IntKind.u64 (IntKind.u64.wrap (x * 131072)) (x / 140737488355328)
theorem rot17 (x : Int) (w : World) : Calls Tryz.prog 198 #[.int .u64 x, .int .i64 17] w fun e w' => e = .returned (.int .u64 (rotl17 x)) ∧ w' = w := by
  have hk : bits BinOp.and IntKind.u64 17 63 = 17 := by decide
  unfold rotl17
  go_enter Tryz.func198, Tryz.ntmps198
  go_wp2
  go_ret
  exact ⟨rfl, rfl⟩
def rotl21 (x : Int) : Int := bits BinOp.or IntKind.u64 (IntKind.u64.wrap (x * 2097152)) (x / 8796093022208)
theorem rot21 (x : Int) (w : World) : Calls Tryz.prog 198 #[.int .u64 x, .int .i64 21] w fun e w' => e = .returned (.int .u64 (rotl21 x)) ∧ w' = w := by
  have hk : bits BinOp.and IntKind.u64 21 63 = 21 := by decide
  unfold rotl21
  go_enter Tryz.func198, Tryz.ntmps198
  go_wp2
  go_ret
  exact ⟨rfl, rfl⟩
def rotl32 (x : Int) : Int := bits BinOp.or IntKind.u64 (IntKind.u64.wrap (x * 4294967296)) (x / 4294967296)
theorem rot32 (x : Int) (w : World) : Calls Tryz.prog 198 #[.int .u64 x, .int .i64 32] w fun e w' => e = .returned (.int .u64 (rotl32 x)) ∧ w' = w := by
  have hk : bits BinOp.and IntKind.u64 32 63 = 32 := by decide
  unfold rotl32
  go_enter Tryz.func198, Tryz.ntmps198
  go_wp2
  go_ret
  exact ⟨rfl, rfl⟩
structure SipS where
  a : Int
  b : Int
  c : Int
  d : Int
/-- A round. -/
def sipR (s : SipS) : SipS :=
  let a1 := IntKind.u64.wrap (s.a + s.b)
  let b1 := bits BinOp.xor IntKind.u64 (rotl13 s.b) a1
  let a2 := rotl32 a1
  let c1 := IntKind.u64.wrap (s.c + s.d)
  let d1 := bits BinOp.xor IntKind.u64 (rotl16 s.d) c1
  let a3 := IntKind.u64.wrap (a2 + d1)
  let d2 := bits BinOp.xor IntKind.u64 (rotl21 d1) a3
  let c2 := IntKind.u64.wrap (c1 + b1)
  let b2 := bits BinOp.xor IntKind.u64 (rotl17 b1) c2
  let c3 := rotl32 c2
  ⟨a3, b2, c3, d2⟩
def sipN : Nat → SipS → SipS
  | 0, s => s
  | n + 1, s => sipR (sipN n s)
/-- The four numbers in memory. -/
structure S4 (w : World) (sb : Nat) (a b c d : Int) : Prop where
  row : w.heap[sb]? = some (.cells #[.int .u64 a, .int .u64 b, .int .u64 c, .int .u64 d] 341 (0, 0))
section
variable {w : World} {sb : Nat} {a b c d : Int}
theorem S4.cells (h : S4 w sb a b c d) : w.cell? ⟨sb, 0, none⟩ = some (.int .u64 a) ∧ w.cell? ⟨sb, 1, none⟩ = some (.int .u64 b) ∧ w.cell? ⟨sb, 2, none⟩ = some (.int .u64 c) ∧ w.cell? ⟨sb, 3, none⟩ = some (.int .u64 d) ∧ w.frozen? ⟨sb, 0, none⟩ = false ∧ w.frozen? ⟨sb, 1, none⟩ = false ∧ w.frozen? ⟨sb, 2, none⟩ = false ∧ w.frozen? ⟨sb, 3, none⟩ = false := by
  rw [cell_of_row _ _ _ _ _ _ h.row, cell_of_row _ _ _ _ _ _ h.row, cell_of_row _ _ _ _ _ _ h.row, cell_of_row _ _ _ _ _ _ h.row]
  exact ⟨rfl, rfl, rfl, rfl, frozen_of_row _ _ _ _ _ h.row, frozen_of_row _ _ _ _ _ h.row, frozen_of_row _ _ _ _ _ h.row, frozen_of_row _ _ _ _ _ h.row⟩
theorem S4.drew (h : S4 w sb a b c d) : S4 w.drew sb a b c d := ⟨h.row⟩
theorem S4.set0 (h : S4 w sb a b c d) (x : Int) : S4 (w.setCell ⟨sb, 0, none⟩ (.int .u64 x)) sb x b c d := ⟨heap_setCell_same _ _ 0 _ _ _ h.row⟩
theorem S4.set1 (h : S4 w sb a b c d) (x : Int) : S4 (w.setCell ⟨sb, 1, none⟩ (.int .u64 x)) sb a x c d := ⟨heap_setCell_same _ _ 1 _ _ _ h.row⟩
theorem S4.set2 (h : S4 w sb a b c d) (x : Int) : S4 (w.setCell ⟨sb, 2, none⟩ (.int .u64 x)) sb a b x d := ⟨heap_setCell_same _ _ 2 _ _ _ h.row⟩
theorem S4.set3 (h : S4 w sb a b c d) (x : Int) : S4 (w.setCell ⟨sb, 3, none⟩ (.int .u64 x)) sb a b c x := ⟨heap_setCell_same _ _ 3 _ _ _ h.row⟩
end
set_option maxRecDepth 100000 in
set_option maxHeartbeats 4000000 in
theorem sip_round (sb n : Nat) (s : SipS) (w : World) (hn : n ≤ 4) (h : S4 w sb s.a s.b s.c s.d) :
    Calls Tryz.prog 185 #[.pointer (some ⟨sb, 0, none⟩), .int .i64 (n : Nat)] w fun e w' => e = .returned (.tuple #[]) ∧ S4 w' sb (sipN n s).a (sipN n s).b (sipN n s).c (sipN n s).d ∧ Two sb sb w w' := by
  obtain ⟨w0, hw0⟩ : ∃ w0, w0 = w := ⟨_, rfl⟩
  have t00 := Two.refl sb sb w0
  have HH := Lib.hid h
  have HT := Lib.hid t00
  have HW0 := Lib.hid hw0
  clear h t00 hw0
  go_enter Tryz.func185, Tryz.ntmps185
  go_wp2_with fail
  go_loopw [5] (fun t wr => ∃ k : Nat, k ≤ n ∧ t = .int .i64 (k : Nat) ∧ S4 wr sb (sipN k s).a (sipN k s).b (sipN k s).c (sipN k s).d ∧ Two sb sb w0 wr) (fun t _ => n - (intOf t).toNat)
  case atStart => exact ⟨0, by omega, rfl, HH.out, by rw [← HW0.out]; exact HT.out⟩
  case round =>
    obtain ⟨k, hk, rfl, h0, t0⟩ := hrel
    by_cases hkn : k = n
    · subst hkn
      have H0 := Lib.hid h0
      have T0 := Lib.hid t0
      clear h0 t0
      go_wp2
      go_end0
      exact ⟨rfl, H0.out, by rw [← HW0.out]; exact T0.out⟩
    · have hklt : (k : Int) < (n : Int) := by omega
      have hkw : IntKind.i64.wrap ((k : Int) + 1) = ((k + 1 : Nat) : Int) := by rw [IntWalk.i64_in _ (by omega)]; omega
      have hst : sipN (k + 1) s = sipR (sipN k s) := rfl
      have HST := Lib.hid hst
      clear hst
      generalize sipN k s = s0 at *
      obtain ⟨a0, b0, c0, d0⟩ := s0
      obtain ⟨e0, e1, e2, e3, f0, f1, f2, f3⟩ := h0.cells
      obtain ⟨a1, q0⟩ : ∃ x, IntKind.u64.wrap (a0 + b0) = x := ⟨_, rfl⟩
      go_wp2_with fail
      go_region
      have h1 : S4 (wr.setCell ⟨sb, 0, none⟩ (.int .u64 a1)).drew sb a1 b0 c0 d0 := (h0.set0 a1).drew
      have t1 : Two sb sb w0 (wr.setCell ⟨sb, 0, none⟩ (.int .u64 a1)).drew := (Two.setCell (x := ⟨sb, 0, none⟩) t0 (.inl rfl) _).drewN 1
      have HQ0 := Lib.hid q0
      clear q0
      clear e0 e1 e2 e3 f0 f1 f2 f3 h0 t0
      generalize (wr.setCell ⟨sb, 0, none⟩ (.int .u64 a1)).drew = v0 at *
      skip
      obtain ⟨e0, e1, e2, e3, f0, f1, f2, f3⟩ := h1.cells
      obtain ⟨r1, p1⟩ : ∃ x, rotl13 b0 = x := ⟨_, rfl⟩
      obtain ⟨b1, q1⟩ : ∃ x, bits BinOp.xor IntKind.u64 r1 a1 = x := ⟨_, rfl⟩
      have C1 := rot13 b0
      rw [p1] at C1
      have HC1 := Lib.hid C1
      have HP1 := Lib.hid p1
      clear C1 p1
      go_wp2_with fail
      refine wp_region_still_tail 13 (by kernel_rfl) (by kernel_rfl) ?_
      simp only [List.take_succ_cons, List.take_zero, List.drop_succ_cons, List.drop_zero]
      iterate 5 still_step
      still_call (HC1.out _)
      iterate 7 still_step
      refine wpStill_nil ?_
      change wpList _ _ _ _ _ v0.drew
      have h2 : S4 (v0.setCell ⟨sb, 1, none⟩ (.int .u64 b1)).drew sb a1 b1 c0 d0 := (h1.set1 b1).drew
      have t2 : Two sb sb w0 (v0.setCell ⟨sb, 1, none⟩ (.int .u64 b1)).drew := (Two.setCell (x := ⟨sb, 1, none⟩) t1 (.inl rfl) _).drewN 1
      have HQ1 := Lib.hid q1
      go_upto_region 4 with (fail)
      clear q1
      clear e0 e1 e2 e3 f0 f1 f2 f3 h1 t1
      generalize (v0.setCell ⟨sb, 1, none⟩ (.int .u64 b1)).drew = v1 at *
      skip
      obtain ⟨e0, e1, e2, e3, f0, f1, f2, f3⟩ := h2.cells
      obtain ⟨a2, q2⟩ : ∃ x, rotl32 a1 = x := ⟨_, rfl⟩
      have C2 := rot32 a1
      rw [q2] at C2
      have HC2 := Lib.hid C2
      clear C2
      have HQ2 := Lib.hid q2
      clear q2
      go_wp2_with fail
      refine (HC2.out _).mono ?_
      rintro e w2 ⟨rfl, rfl⟩
      have h3 : S4 (w2.setCell ⟨sb, 0, none⟩ (.int .u64 a2)) sb a2 b1 c0 d0 := (h2.set0 a2)
      have t3 : Two sb sb w0 (w2.setCell ⟨sb, 0, none⟩ (.int .u64 a2)) := (Two.setCell (x := ⟨sb, 0, none⟩) t2 (.inl rfl) _)
      go_upto_region 5 with (fail)
      clear e0 e1 e2 e3 f0 f1 f2 f3 h2 t2
      generalize (w2.setCell ⟨sb, 0, none⟩ (.int .u64 a2)) = v2 at *
      skip
      obtain ⟨e0, e1, e2, e3, f0, f1, f2, f3⟩ := h3.cells
      obtain ⟨c1, q3⟩ : ∃ x, IntKind.u64.wrap (c0 + d0) = x := ⟨_, rfl⟩
      go_wp2_with fail
      go_region
      have h4 : S4 (v2.setCell ⟨sb, 2, none⟩ (.int .u64 c1)).drew sb a2 b1 c1 d0 := (h3.set2 c1).drew
      have t4 : Two sb sb w0 (v2.setCell ⟨sb, 2, none⟩ (.int .u64 c1)).drew := (Two.setCell (x := ⟨sb, 2, none⟩) t3 (.inl rfl) _).drewN 1
      have HQ3 := Lib.hid q3
      clear q3
      clear e0 e1 e2 e3 f0 f1 f2 f3 h3 t3
      generalize (v2.setCell ⟨sb, 2, none⟩ (.int .u64 c1)).drew = v3 at *
      skip
      obtain ⟨e0, e1, e2, e3, f0, f1, f2, f3⟩ := h4.cells
      obtain ⟨r4, p4⟩ : ∃ x, rotl16 d0 = x := ⟨_, rfl⟩
      obtain ⟨d1, q4⟩ : ∃ x, bits BinOp.xor IntKind.u64 r4 c1 = x := ⟨_, rfl⟩
      have C4 := rot16 d0
      rw [p4] at C4
      have HC4 := Lib.hid C4
      have HP4 := Lib.hid p4
      clear C4 p4
      go_wp2_with fail
      refine wp_region_still_tail 13 (by kernel_rfl) (by kernel_rfl) ?_
      simp only [List.take_succ_cons, List.take_zero, List.drop_succ_cons, List.drop_zero]
      iterate 5 still_step
      still_call (HC4.out _)
      iterate 7 still_step
      refine wpStill_nil ?_
      change wpList _ _ _ _ _ v3.drew
      have h5 : S4 (v3.setCell ⟨sb, 3, none⟩ (.int .u64 d1)).drew sb a2 b1 c1 d1 := (h4.set3 d1).drew
      have t5 : Two sb sb w0 (v3.setCell ⟨sb, 3, none⟩ (.int .u64 d1)).drew := (Two.setCell (x := ⟨sb, 3, none⟩) t4 (.inl rfl) _).drewN 1
      have HQ4 := Lib.hid q4
      go_upto_region 7 with (fail)
      clear q4
      clear e0 e1 e2 e3 f0 f1 f2 f3 h4 t4
      generalize (v3.setCell ⟨sb, 3, none⟩ (.int .u64 d1)).drew = v4 at *
      skip
      obtain ⟨e0, e1, e2, e3, f0, f1, f2, f3⟩ := h5.cells
      obtain ⟨a3, q5⟩ : ∃ x, IntKind.u64.wrap (a2 + d1) = x := ⟨_, rfl⟩
      go_wp2_with fail
      go_region
      have h6 : S4 (v4.setCell ⟨sb, 0, none⟩ (.int .u64 a3)).drew sb a3 b1 c1 d1 := (h5.set0 a3).drew
      have t6 : Two sb sb w0 (v4.setCell ⟨sb, 0, none⟩ (.int .u64 a3)).drew := (Two.setCell (x := ⟨sb, 0, none⟩) t5 (.inl rfl) _).drewN 1
      have HQ5 := Lib.hid q5
      clear q5
      clear e0 e1 e2 e3 f0 f1 f2 f3 h5 t5
      generalize (v4.setCell ⟨sb, 0, none⟩ (.int .u64 a3)).drew = v5 at *
      skip
      obtain ⟨e0, e1, e2, e3, f0, f1, f2, f3⟩ := h6.cells
      obtain ⟨r6, p6⟩ : ∃ x, rotl21 d1 = x := ⟨_, rfl⟩
      obtain ⟨d2, q6⟩ : ∃ x, bits BinOp.xor IntKind.u64 r6 a3 = x := ⟨_, rfl⟩
      have C6 := rot21 d1
      rw [p6] at C6
      have HC6 := Lib.hid C6
      have HP6 := Lib.hid p6
      clear C6 p6
      go_wp2_with fail
      refine wp_region_still_tail 13 (by kernel_rfl) (by kernel_rfl) ?_
      simp only [List.take_succ_cons, List.take_zero, List.drop_succ_cons, List.drop_zero]
      iterate 5 still_step
      still_call (HC6.out _)
      iterate 7 still_step
      refine wpStill_nil ?_
      change wpList _ _ _ _ _ v5.drew
      have h7 : S4 (v5.setCell ⟨sb, 3, none⟩ (.int .u64 d2)).drew sb a3 b1 c1 d2 := (h6.set3 d2).drew
      have t7 : Two sb sb w0 (v5.setCell ⟨sb, 3, none⟩ (.int .u64 d2)).drew := (Two.setCell (x := ⟨sb, 3, none⟩) t6 (.inl rfl) _).drewN 1
      have HQ6 := Lib.hid q6
      go_upto_region 9 with (fail)
      clear q6
      clear e0 e1 e2 e3 f0 f1 f2 f3 h6 t6
      generalize (v5.setCell ⟨sb, 3, none⟩ (.int .u64 d2)).drew = v6 at *
      skip
      obtain ⟨e0, e1, e2, e3, f0, f1, f2, f3⟩ := h7.cells
      obtain ⟨c2, q7⟩ : ∃ x, IntKind.u64.wrap (c1 + b1) = x := ⟨_, rfl⟩
      go_wp2_with fail
      go_region
      have h8 : S4 (v6.setCell ⟨sb, 2, none⟩ (.int .u64 c2)).drew sb a3 b1 c2 d2 := (h7.set2 c2).drew
      have t8 : Two sb sb w0 (v6.setCell ⟨sb, 2, none⟩ (.int .u64 c2)).drew := (Two.setCell (x := ⟨sb, 2, none⟩) t7 (.inl rfl) _).drewN 1
      have HQ7 := Lib.hid q7
      clear q7
      clear e0 e1 e2 e3 f0 f1 f2 f3 h7 t7
      generalize (v6.setCell ⟨sb, 2, none⟩ (.int .u64 c2)).drew = v7 at *
      skip
      obtain ⟨e0, e1, e2, e3, f0, f1, f2, f3⟩ := h8.cells
      obtain ⟨r8, p8⟩ : ∃ x, rotl17 b1 = x := ⟨_, rfl⟩
      obtain ⟨b2, q8⟩ : ∃ x, bits BinOp.xor IntKind.u64 r8 c2 = x := ⟨_, rfl⟩
      have C8 := rot17 b1
      rw [p8] at C8
      have HC8 := Lib.hid C8
      have HP8 := Lib.hid p8
      clear C8 p8
      go_wp2_with fail
      refine wp_region_still_tail 13 (by kernel_rfl) (by kernel_rfl) ?_
      simp only [List.take_succ_cons, List.take_zero, List.drop_succ_cons, List.drop_zero]
      iterate 5 still_step
      still_call (HC8.out _)
      iterate 7 still_step
      refine wpStill_nil ?_
      change wpList _ _ _ _ _ v7.drew
      have h9 : S4 (v7.setCell ⟨sb, 1, none⟩ (.int .u64 b2)).drew sb a3 b2 c2 d2 := (h8.set1 b2).drew
      have t9 : Two sb sb w0 (v7.setCell ⟨sb, 1, none⟩ (.int .u64 b2)).drew := (Two.setCell (x := ⟨sb, 1, none⟩) t8 (.inl rfl) _).drewN 1
      have HQ8 := Lib.hid q8
      go_upto_region 11 with (fail)
      clear q8
      clear e0 e1 e2 e3 f0 f1 f2 f3 h8 t8
      generalize (v7.setCell ⟨sb, 1, none⟩ (.int .u64 b2)).drew = v8 at *
      skip
      obtain ⟨e0, e1, e2, e3, f0, f1, f2, f3⟩ := h9.cells
      obtain ⟨c3, q9⟩ : ∃ x, rotl32 c2 = x := ⟨_, rfl⟩
      have C9 := rot32 c2
      rw [q9] at C9
      have HC9 := Lib.hid C9
      clear C9
      have HQ9 := Lib.hid q9
      clear q9
      go_wp2_with fail
      refine (HC9.out _).mono ?_
      rintro e w9 ⟨rfl, rfl⟩
      have h10 : S4 (w9.setCell ⟨sb, 2, none⟩ (.int .u64 c3)) sb a3 b2 c3 d2 := (h9.set2 c3)
      have t10 : Two sb sb w0 (w9.setCell ⟨sb, 2, none⟩ (.int .u64 c3)) := (Two.setCell (x := ⟨sb, 2, none⟩) t9 (.inl rfl) _)
      go_wp2_with fail
      clear e0 e1 e2 e3 f0 f1 f2 f3 h9 t9
      skip
      have e : sipR ⟨a0, b0, c0, d0⟩ = ⟨a3, b2, c3, d2⟩ := by
        simp only [sipR, HQ0.out, HP1.out, HQ1.out, HQ2.out, HQ3.out, HP4.out, HQ4.out, HQ5.out, HP6.out, HQ6.out, HQ7.out, HP8.out, HQ8.out, HQ9.out]
      refine ⟨⟨k + 1, by omega, by congr 1, ?_, t10⟩, ?_⟩
      · rw [HST.out, e]
        exact h10
      · simp only [intOf]
        omega
end Go.Proofs.YtpanmfdbdgecaaaGreat.C

namespace Go.Proofs.YtpanmfdbdgecaaaGreat.C
open Go.RowKit
set_option linter.unusedVariables false
/-- The number of the first bytes, the lowest first. -/
def numP (F : Nat → Nat) : Nat → Int
  | 0 => 0
  | k + 1 => bits BinOp.or IntKind.u64 (numP F k) (IntKind.u64.wrap (IntKind.u64.wrap (F k : Int) * 2 ^ (8 * k)))
set_option maxRecDepth 100000 in
theorem sip_number (A : Option Addr) (g o n c : Nat) (F : Nat → Nat) (w : World) (hA : n ≠ 0 → A = some ⟨g, o, none⟩) (hc : ∀ j, j < n → w.cell? ⟨g, o + j, none⟩ = some (.int .u8 (F j : Nat))) (hn : n ≤ 8) :
    Calls Tryz.prog 182 #[.slice A n c] w fun e w' => e = .returned (.int .u64 (numP F n)) ∧ w' = w := by
  have HC := Lib.hid hc
  have HA := Lib.hid hA
  clear hc hA
  go_enter Tryz.func182, Tryz.ntmps182
  go_wp2_with fail
  go_loopw [3, 8] (fun s t wr => ∃ k : Nat, k ≤ n ∧ t = .int .i64 (k : Nat) ∧ s = .int .u64 (numP F k) ∧ wr = w) (fun _ t _ => n - (intOf t).toNat)
  case atStart => exact ⟨0, by omega, rfl, rfl, rfl⟩
  case round =>
    obtain ⟨k, hk, rfl, rfl, rfl⟩ := hrel
    by_cases hkn : k = n
    · subst hkn
      go_wp2
      go_ret
      exact ⟨rfl, rfl⟩
    · obtain rfl := HA.out (by omega)
      have ck := HC.out k (by omega)
      have hlt : (k : Int) < (n : Int) := by omega
      have hkw : IntKind.i64.wrap ((k : Int) + 1) = ((k + 1 : Nat) : Int) := by rw [IntWalk.i64_in _ (by omega)]; omega
      have hk8 : IntKind.i64.wrap (8 * (k : Int)) = ((8 * k : Nat) : Int) := by rw [IntWalk.i64_in _ (by omega)]; omega
      go_wp2_with fail
      refine ⟨⟨k + 1, by omega, by congr 1, rfl, by first | rfl | trivial⟩, ?_⟩
      simp only [intOf]
      omega
def xorU (x y : Int) : Int := bits BinOp.xor IntKind.u64 x y
/-- Eight bytes are taken. -/
def sipW (s : SipS) (m : Int) : SipS := ⟨xorU (sipN 2 ⟨s.a, s.b, s.c, xorU s.d m⟩).a m, (sipN 2 ⟨s.a, s.b, s.c, xorU s.d m⟩).b, (sipN 2 ⟨s.a, s.b, s.c, xorU s.d m⟩).c, (sipN 2 ⟨s.a, s.b, s.c, xorU s.d m⟩).d⟩
set_option maxRecDepth 100000 in
theorem sip_word (sb : Nat) (m : Int) (s : SipS) (w : World) (h : S4 w sb s.a s.b s.c s.d) :
    Calls Tryz.prog 184 #[.pointer (some ⟨sb, 0, none⟩), .int .u64 m] w fun e w' => e = .returned (.tuple #[]) ∧ S4 w' sb (sipW s m).a (sipW s m).b (sipW s m).c (sipW s m).d ∧ Two sb sb w w' := by
  obtain ⟨x1, hx1⟩ : ∃ x, xorU s.d m = x := ⟨_, rfl⟩
  obtain ⟨s2, hs2⟩ : ∃ z, sipN 2 ⟨s.a, s.b, s.c, x1⟩ = z := ⟨_, rfl⟩
  obtain ⟨x3, hx3⟩ : ∃ x, xorU s2.a m = x := ⟨_, rfl⟩
  have e : sipW s m = ⟨x3, s2.b, s2.c, s2.d⟩ := by
    unfold sipW
    rw [hx1, hs2, hx3]
  rw [e]
  have h1 := h.set3 x1
  have C := Lib.hid (sip_round sb 2 ⟨s.a, s.b, s.c, x1⟩ _ (by omega) h1)
  rw [hs2] at C
  obtain ⟨e0, e1, e2, e3, f0, f1, f2, f3⟩ := h.cells
  have T1 := Lib.hid (Two.setCell (g := sb) (h := sb) (x := ⟨sb, 3, none⟩) (Two.refl sb sb w) (.inl rfl) (.int .u64 x1))
  have q1 : bits BinOp.xor IntKind.u64 s.d m = x1 := hx1
  have q3 : bits BinOp.xor IntKind.u64 s2.a m = x3 := hx3
  clear e hx1 hs2 hx3 h h1
  obtain ⟨a2, b2, c2, d2⟩ := s2
  go_enter Tryz.func184, Tryz.ntmps184
  go_wp2_with fail
  refine C.out.mono ?_
  rintro e w2 ⟨rfl, h2, t2⟩
  obtain ⟨e0, e1, e2, e3, f0, f1, f2, f3⟩ := h2.cells
  have H3 := Lib.hid (h2.set0 x3)
  have T3 := Lib.hid (Two.setCell (g := sb) (h := sb) (x := ⟨sb, 0, none⟩) (T1.out.trans t2) (.inl rfl) (.int .u64 x3))
  clear h2 t2 C T1
  go_wp2
  go_end0
  exact ⟨rfl, H3.out, T3.out⟩
set_option maxRecDepth 100000 in
/-- Room of its own for so many bytes. -/
theorem grow_nil (n : Nat) (w : World) (h0 : 1 ≤ n) (h1 : n ≤ 65536) :
    Calls Tryz.prog 197 #[.slice none 0 0, .int .i64 (n : Nat)] w fun e w' => ∃ u, e = .returned u ∧ w'.ownsRow w.heap.size 5 1 u 0 [] ∧ Below w.heap.size w w' := by
  obtain ⟨i0, hi, hz0, hz1, hz2⟩ := info_parts u8_info
  have hr := Lib.run_append_nil_zeros (P := Tryz.prog) w 37 3 37 5 i0 (.int .u8 0) .i64 .i64 Tryz.underlying37 Tryz.underlying3 hi hz0 n (by omega) (by rw [hz1]; omega) (by omega) (by rw [hz2]; omega)
  have hge := grownCap_ge w n 0 5
  have hle := grownCap_le_maxLen w n 0 5 (by simp only [maxLen]; omega)
  have hX := Go.heap_alloc_new w.drew (.cells (Builtin.zeroCells (Value.cells (.int .u8 0)) n ++ Builtin.zeroCells (Value.cells (.int .u8 0)) (grownCap w n 0 5 - n)) 5)
  have hB : Below w.heap.size w (w.drew.alloc (.cells (Builtin.zeroCells (Value.cells (.int .u8 0)) n ++ Builtin.zeroCells (Value.cells (.int .u8 0)) (grownCap w n 0 5 - n)) 5)) := ((Below.refl _ _).drew).alloc (by simp) _
  have hsz : (Builtin.zeroCells (Value.cells (.int .u8 0)) n ++ Builtin.zeroCells (Value.cells (.int .u8 0)) (grownCap w n 0 5 - n)).size = grownCap w n 0 5 := by
    rw [Array.size_append, size_zeroCells, size_zeroCells]
    simp [Value.cells]
    omega
  generalize w.drew.alloc (.cells (Builtin.zeroCells (Value.cells (.int .u8 0)) n ++ Builtin.zeroCells (Value.cells (.int .u8 0)) (grownCap w n 0 5 - n)) 5) = W at *
  generalize Builtin.zeroCells (Value.cells (.int .u8 0)) n ++ Builtin.zeroCells (Value.cells (.int .u8 0)) (grownCap w n 0 5 - n) = Z at *
  generalize grownCap w n 0 5 = cap at *
  have HX := Lib.hid hX
  have HB := Lib.hid hB
  have HSZ := Lib.hid hsz
  clear hX hB hsz hi hz0 hz1 hz2
  have hpos : ¬ ((n : Int) < 0) := by omega
  have hw : IntKind.i64.wrap ((n : Int) - 0) = (n : Nat) := by rw [Int.sub_zero]; exact IntWalk.i64_in _ (by omega)
  have h0n : (0 : Int) < (n : Int) := by omega
  go_enter Tryz.func197, Tryz.ntmps197
  go_wp2_with (at_builtin; go_must (refine Lib.wpList_append_run _ rfl (.tmp 20) (.tmp 21) 37 3 rfl _ _ rfl rfl _ _ hr ?_))
  go_ret
  exact ⟨_, rfl, ⟨by simp, .inr ⟨w.heap.size, cap, Z, rfl, Nat.le_refl _, HX.out, Nat.zero_le _, hle, by rw [HSZ.out, Nat.mul_one], by simp⟩⟩, HB.out⟩
set_option maxRecDepth 100000 in
set_option maxHeartbeats 1000000 in
/-- One part is copied. -/
theorem concat_one (pg g o n c : Nat) (F : Nat → Nat) (w : World) (hp : w.cell? ⟨pg, 0, none⟩ = some (.slice (some ⟨g, o, none⟩) n c)) (h : FrAt w g o n c F) (h0 : 1 ≤ n) (h1 : n ≤ 64) :
    Calls Tryz.prog 183 #[.slice (some ⟨pg, 0, none⟩) 1 1] w fun e w' => ∃ g' c', e = .returned (.slice (some ⟨g', 0, none⟩) n c') ∧ FrAt w' g' 0 n c' F ∧ Below w.heap.size w w' := by
  obtain ⟨i0, hi, hz0, hz1, hz2⟩ := info_parts u8_info
  have Hi := Lib.hid hi
  have Hz0 := Lib.hid hz0
  have Hz1 := Lib.hid hz1
  have Hz2 := Lib.hid hz2
  have HF := Lib.hid h
  have hpb := World.block_lt_of_cell? w _ hp
  simp only at hpb
  have HP := Lib.hid hp
  have CG := Lib.hid (grow_nil n w h0 (by omega))
  have hw : IntKind.i64.wrap (0 + (n : Int)) = (n : Nat) := by rw [Int.zero_add]; exact IntWalk.i64_in _ (by omega)
  have hn0 : ¬ ((n : Int) < 0) := by omega
  clear h hi hz0 hz1 hz2
  go_enter Tryz.func183, Tryz.ntmps183
  go_wp2_with fail
  go_loopw [3, 11] (fun s t wr => ∃ k : Nat, k ≤ 1 ∧ t = .int .i64 (k : Nat) ∧ s = .int .i64 ((if k = 0 then 0 else n : Nat) : Int) ∧ w = wr) (fun _ t _ => 1 - (intOf t).toNat)
  case atStart => exact ⟨0, by omega, rfl, rfl, rfl⟩
  case round =>
    obtain ⟨k, hk, rfl, rfl, rfl⟩ := hrel
    rcases (show k = 0 ∨ k = 1 by omega) with rfl | rfl
    · go_wp2_with fail
      refine ⟨⟨1, by omega, rfl, ?_, by first | rfl | trivial⟩, ?_⟩
      · simp
      · simp [intOf]
    · rw [if_neg (by omega)]
      go_wp2_with fail
      refine CG.out.mono ?_
      rintro e w2 ⟨u, rfl, ho, hb⟩
      obtain ⟨A2, c2, rfl⟩ := OW.slice ho
      have HO := Lib.hid ho
      have HB := Lib.hid hb
      have hp2 : w2.cell? ⟨pg, 0, none⟩ = some (.slice (some ⟨g, o, none⟩) n c) := by rw [hb.cell (p := ⟨pg, 0, none⟩) hpb]; exact HP.out
      have HP2 := Lib.hid hp2
      have HF2 := Lib.hid (HF.out.below HF.out.blk hb (Nat.le_refl _))
      clear ho hb CG hp hp2
      go_wp2_with fail
      go_loopw [6, 27] (fun s t wr => ∃ k : Nat, k ≤ 1 ∧ t = .int .i64 (k : Nat) ∧ wr.ownsRow w.heap.size 5 1 s (if k = 0 then 0 else n) (if k = 0 then [] else bv ((List.range n).map F)) ∧ Below w.heap.size w wr ∧ (k = 0 → s = .slice A2 0 c2 ∧ w2 = wr)) (fun _ t _ => 1 - (intOf t).toNat)
      case atStart => exact ⟨0, by omega, rfl, HO.out, HB.out, fun _ => ⟨rfl, rfl⟩⟩
      case round =>
        obtain ⟨k, hk, rfl, ho, hb, hz⟩ := hrel
        rcases (show k = 0 ∨ k = 1 by omega) with rfl | rfl
        · obtain ⟨rfl, rfl⟩ := hz rfl
          clear ho hb hz
          have hp2 := HP2.out
          go_wp2_with (at_builtin; go_must (refine wpList_append_own_at _ rfl (.tmp 31) (.tmp 32) 37 rfl w.heap.size 5 i0 (.int .u8 0) 1 1 Tryz.underlying37 Hi.out Hz0.out Hz1.out Hz2.out rfl (by omega) (.slice A2 0 c2) 0 [] rfl HO.out ⟨g, o, none⟩ n c (bv ((List.range n).map F)) rfl ?hl ?hn bv_one ?h63 ?hb ?hbase ?next))
          case hl => simp [bv]
          case hn =>
            intro j v hv
            have hj := (List.getElem?_eq_some_iff.1 hv).1
            simp only [bv, List.length_map, List.length_range] at hj
            simp only [bv, List.map_map, List.getElem?_map, List.getElem?_range hj, Option.map_some, Option.some.injEq] at hv
            rw [OW.addr_off, ← hv]
            exact HF2.out.cell j hj
          case h63 => simp only [maxLen]; omega
          case hb => omega
          case hbase => exact HB.out.size
          case next =>
            intro v' w' hown hg _ hat
            have hB : Below w.heap.size w w' := HB.out.grown hg HB.out.size (fun q hq => (World.ownsRow.lt HO.out q hq).1)
            have HO4 := Lib.hid hown
            have HB4 := Lib.hid hB
            clear hown hg hat hB
            go_wp2_with fail
            refine ⟨⟨1, by omega, rfl, ?_, HB4.out, by simp⟩, by simp [intOf]⟩
            have := HO4.out
            simpa using this
        · simp only [Nat.one_ne_zero, if_false] at ho
          obtain ⟨A3, c3, rfl⟩ := OW.slice ho
          obtain ⟨g3, rfl, hcap⟩ : ∃ g3, A3 = some ⟨g3, 0, none⟩ ∧ g3 < wr.heap.size := by
            rcases ho.2 with ⟨h0, h1⟩ | ⟨g2, cap, cur, hv, _, hh, _⟩
            · exact absurd h1 (by omega)
            · injection hv with h4 h5 h6
              exact ⟨g2, h4, (Array.getElem?_eq_some_iff.1 hh).1⟩
          have hfr : FrAt wr g3 0 n c3 F := by
            refine ⟨fun j hj => ?_, HF.out.byte, OW.cap ho, hcap⟩
            have := ho.cells (g := g3) rfl j (.int .u8 (F j : Nat)) (by simp [bv, List.getElem?_range hj])
            rw [OW.addr_off] at this
            exact this
          have HFR := Lib.hid hfr
          have HB5 := Lib.hid hb
          clear ho hb hz hfr
          go_wp2
          go_ret
          exact ⟨g3, c3, rfl, HFR.out, HB5.out⟩
/-- The four numbers at the beginning. -/
def sipI (k0 k1 : Int) : SipS := ⟨xorU k0 8317987319222330741, xorU k1 7237128888997146477, xorU k0 7816392313619706465, xorU k1 8387220255154660723⟩
/-- .. behind so many words. -/
def sipB (F : Nat → Nat) (s : SipS) : Nat → SipS
  | 0 => s
  | k + 1 => sipW (sipB F s k) (numP (fun j => F (8 * k + j)) 8)
def sipE (s : SipS) : Int := xorU (xorU (xorU (sipN 4 ⟨s.a, s.b, xorU s.c 255, s.d⟩).a (sipN 4 ⟨s.a, s.b, xorU s.c 255, s.d⟩).b) (sipN 4 ⟨s.a, s.b, xorU s.c 255, s.d⟩).c) (sipN 4 ⟨s.a, s.b, xorU s.c 255, s.d⟩).d
/-- The sum of bytes. -/
def sipSum (K F : Nat → Nat) (n : Nat) : Int := sipE (sipW (sipB F (sipI (numP K 8) (numP (fun j => K (8 + j)) 8)) (n / 8)) (bits BinOp.or IntKind.u64 (numP (fun j => F (8 * (n / 8) + j)) (n % 8)) (IntKind.u64.wrap ((n : Int) * 72057594037927936))))
theorem sipSum_range (K F : Nat → Nat) (n : Nat) : 0 ≤ sipSum K F n ∧ sipSum K F n < 18446744073709551616 := by
  have key : ∀ x y : Int, 0 ≤ xorU x y ∧ xorU x y < 18446744073709551616 := fun x y => by
    unfold xorU bits
    rw [IntKind.wrap_u64]
    omega
  exact key _ _
end Go.Proofs.YtpanmfdbdgecaaaGreat.C

namespace Go.Proofs.YtpanmfdbdgecaaaGreat.C
open Go.RowKit
set_option linter.unusedVariables false
theorem s4_below {w w' : World} {sb : Nat} {a b c d : Int} (h : S4 w sb a b c d) (p : Below w.heap.size w w') : S4 w' sb a b c d := ⟨keep_block p h.row⟩
theorem FrAt.two {w w' : World} {g o n c b : Nat} {B : Nat → Nat} (h : FrAt w g o n c B) (t : Two b b w w') (hne : g ≠ b) : FrAt w' g o n c B :=
  ⟨fun j hj => by rw [World.cell?_of_block (t.block g h.blk hne hne)]; exact h.cell j hj, h.byte, h.cap, Nat.lt_of_lt_of_le h.blk t.size⟩
set_option maxRecDepth 100000 in
set_option maxHeartbeats 1000000 in
theorem sip_sum (kv : Array Value) (K : Nat → Nat) (pg g o n c : Nat) (F : Nat → Nat) (w : World) (hk : ∀ j, j < 16 → kv[j]? = some (.int .u8 (K j : Nat))) (hp : w.cell? ⟨pg, 0, none⟩ = some (.slice (some ⟨g, o, none⟩) n c)) (h : FrAt w g o n c F) (h0 : 1 ≤ n) (h1 : n ≤ 64) :
    Calls Tryz.prog 166 #[.agg kv, .slice (some ⟨pg, 0, none⟩) 1 1] w fun e w' => e = .returned (.int .u64 (sipSum K F n)) ∧ Below w.heap.size w w' := by
  have HK := Lib.hid hk
  have HF := Lib.hid h
  have hpb := World.block_lt_of_cell? w _ hp
  simp only at hpb
  have HP := Lib.hid hp
  clear h hk hp
  obtain ⟨k0, hk0⟩ : ∃ x, numP K 8 = x := ⟨_, rfl⟩
  obtain ⟨k1, hk1⟩ : ∃ x, numP (fun j => K (8 + j)) 8 = x := ⟨_, rfl⟩
  have HK0 := Lib.hid hk0
  have HK1 := Lib.hid hk1
  clear hk0 hk1
  go_enter Tryz.func166, Tryz.ntmps166
  go_upto_region 1 with ((with_reducible refine arm_box 2 0 22 kv ?_ ?_); rfl; intro w1 HB HX HS)
  have N0 : Hid (Calls Tryz.prog 182 #[.slice (some ⟨w.heap.size, 0, none⟩) 8 16] w1.drew fun e w' => e = .returned (.int .u64 k0) ∧ w' = w1.drew) := Lib.hid (by
    have := sip_number (some ⟨w.heap.size, 0, none⟩) w.heap.size 0 8 16 K w1.drew (fun _ => rfl) (fun j hj => by rw [Nat.zero_add]; exact cells_of_row (w := w1.drew) HX.out j _ (HK.out j (by omega))) (by omega)
    rw [HK0.out] at this
    exact this)
  have N1 : Hid (Calls Tryz.prog 182 #[.slice (some ⟨w.heap.size, 8, none⟩) 8 8] w1.drew fun e w' => e = .returned (.int .u64 k1) ∧ w' = w1.drew) := Lib.hid (by
    have := sip_number (some ⟨w.heap.size, 8, none⟩) w.heap.size 8 8 8 (fun j => K (8 + j)) w1.drew (fun _ => rfl) (fun j hj => cells_of_row (w := w1.drew) HX.out (8 + j) _ (HK.out (8 + j) (by omega))) (by omega)
    rw [HK1.out] at this
    exact this)
  go_wp2_with fail
  refine wp_region_held_drew (S := fun w' => w' = w1.drew) (by kernel_rfl) rfl (fun hHeld => ?_)
  refine wpAnyH_take (i := 0) (oi := ⟨some 10, _, _, _, _, _⟩) (v := ?_) rfl (by kernel_rfl) (by kernel_rfl) (by kernel_rfl) (fun _ _ _ h => h) (Or.inl ⟨by rfl, ?_⟩) hHeld ?_
  rotate_left
  · intro w hSw
    go_simp
    try with_reducible rfl
  try simp only [Act.put, List.setIfInBounds_toArray, List.set_cons_zero, List.set_cons_succ]
  refine wpAnyH_take (i := 2) (oi := ⟨some 12, _, _, _, _, _⟩) (v := ?_) rfl (by kernel_rfl) (by kernel_rfl) (by kernel_rfl) (fun _ _ _ h => h) (Or.inl ⟨by rfl, ?_⟩) hHeld ?_
  rotate_left
  · intro w hSw
    go_simp
    try with_reducible rfl
  try simp only [Act.put, List.setIfInBounds_toArray, List.set_cons_zero, List.set_cons_succ]
  refine wpAnyH_ready (rs := [1]) (by kernel_rfl) (by simp) ?_
  refine AllReadyH.cons rfl (fun K hK => ?_) AllReadyH.nil
  go_simp
  go_wp2_with (go_at_call 182; go_must (refine (N0.out).mono ?_; rintro e w1 ⟨rfl, rfl⟩))
  refine hK.out _ _ (rfl) (fun hHeld => ?_)
  clear hK K
  refine wpAnyH_ready (rs := [3]) (by kernel_rfl) (by simp) ?_
  refine AllReadyH.cons rfl (fun K hK => ?_) AllReadyH.nil
  go_simp
  go_wp2_with (go_at_call 182; go_must (refine (N1.out).mono ?_; rintro e w3 ⟨rfl, rfl⟩))
  refine hK.out _ _ (rfl) (fun hHeld => ?_)
  clear hK K
  refine wpAnyH_take (i := 4) (oi := ⟨some 5, _, _, _, _, _⟩) (v := ?_) rfl (by kernel_rfl) (by kernel_rfl) (by kernel_rfl) (fun _ _ _ h => h) (Or.inl ⟨by rfl, ?_⟩) hHeld ?_
  rotate_left
  · intro w hSw
    go_simp
    try with_reducible rfl
  try simp only [Act.put, List.setIfInBounds_toArray, List.set_cons_zero, List.set_cons_succ]
  refine wpAnyH_take (i := 5) (oi := ⟨some 6, _, _, _, _, _⟩) (v := ?_) rfl (by kernel_rfl) (by kernel_rfl) (by kernel_rfl) (fun _ _ _ h => h) (Or.inl ⟨by rfl, ?_⟩) hHeld ?_
  rotate_left
  · intro w hSw
    go_simp
    try with_reducible rfl
  try simp only [Act.put, List.setIfInBounds_toArray, List.set_cons_zero, List.set_cons_succ]
  refine wpAnyH_done (by kernel_rfl) ?_ _
  obtain ⟨x0, q0⟩ : ∃ x, bits BinOp.xor IntKind.u64 k0 8317987319222330741 = x := ⟨_, rfl⟩
  obtain ⟨x1, q1⟩ : ∃ x, bits BinOp.xor IntKind.u64 k1 7237128888997146477 = x := ⟨_, rfl⟩
  obtain ⟨x2, q2⟩ : ∃ x, bits BinOp.xor IntKind.u64 k0 7816392313619706465 = x := ⟨_, rfl⟩
  obtain ⟨x3, q3⟩ : ∃ x, bits BinOp.xor IntKind.u64 k1 8387220255154660723 = x := ⟨_, rfl⟩
  have hI : sipI k0 k1 = ⟨x0, x1, x2, x3⟩ := by
    unfold sipI xorU
    rw [q0, q1, q2, q3]
  have HI := Lib.hid hI
  clear hI hHeld
  have hsl := HB.out.size
  have hX2 := Go.heap_alloc_new w1 (.cells #[.int .u64 x0, .int .u64 x1, .int .u64 x2, .int .u64 x3] 341)
  have hB2 : Below w.heap.size w (w1.alloc (.cells #[.int .u64 x0, .int .u64 x1, .int .u64 x2, .int .u64 x3] 341)).drew := (HB.out.alloc hsl _).drew
  have hS2 : S4 (w1.alloc (.cells #[.int .u64 x0, .int .u64 x1, .int .u64 x2, .int .u64 x3] 341)).drew w1.heap.size x0 x1 x2 x3 := ⟨hX2⟩
  have HB2 := Lib.hid hB2
  have HS2 := Lib.hid hS2
  clear hX2 hB2 hS2
  go_upto_region 3 with (fail)
  generalize (w1.alloc (.cells #[.int .u64 x0, .int .u64 x1, .int .u64 x2, .int .u64 x3] 341)).drew = w2 at *
  generalize w1.heap.size = sb at *
  clear q0 q1 q2 q3 N0 N1
  have hp2 : w2.cell? ⟨pg, 0, none⟩ = some (.slice (some ⟨g, o, none⟩) n c) := by rw [HB2.out.cell (p := ⟨pg, 0, none⟩) hpb]; exact HP.out
  have CC := Lib.hid (concat_one pg g o n c F w2 hp2 (HF.out.below HF.out.blk HB2.out (Nat.le_refl _)) h0 h1)
  clear hp2
  go_wp2_with fail
  refine CC.out.mono ?_
  rintro e w3 ⟨g3, c3, rfl, hfr, hb⟩
  have hs2 := HB2.out.size
  have HB3 := Lib.hid (HB2.out.trans (hb.mono hs2))
  have hS3 := s4_below HS2.out hb
  have hgne : g3 ≠ sb := by
    rintro rfl
    have a1 := hfr.cell 0 (by omega)
    have a2 := hS3.cells.1
    rw [Nat.zero_add, a2] at a1
    injection a1 with a1
    injection a1 with a1 _
    cases a1
  have HS3 := Lib.hid hS3
  have HF3 := Lib.hid hfr
  clear hfr hb hS3 CC HS2
  have hcap3 := HF3.out.cap
  simp only [maxLen] at hcap3
  go_wp2_with fail
  go_loopw [8] (fun s wr => ∃ (k : Nat) (A' : Option Addr) (c' : Nat), k ≤ n / 8 ∧ s = .slice A' (n - 8 * k) c' ∧ (n - 8 * k ≠ 0 → A' = some ⟨g3, 8 * k, none⟩) ∧ (n - 8 * k ≤ c' ∧ c' ≤ 9223372036854775807) ∧ S4 wr sb (sipB F ⟨x0, x1, x2, x3⟩ k).a (sipB F ⟨x0, x1, x2, x3⟩ k).b (sipB F ⟨x0, x1, x2, x3⟩ k).c (sipB F ⟨x0, x1, x2, x3⟩ k).d ∧ Below w.heap.size w wr ∧ FrAt wr g3 0 n c3 F) (fun s _ => match s with | .slice _ m _ => m | _ => 0)
  case atStart => exact ⟨0, some ⟨g3, 0, none⟩, c3, by omega, rfl, fun _ => rfl, ⟨by omega, by omega⟩, HS3.out, HB3.out, HF3.out⟩
  case round =>
    obtain ⟨k, A', c', hk, rfl, hA, hc', hS, hB, hF⟩ := hrel
    by_cases hk8 : k = n / 8
    · subst hk8
      obtain ⟨r, hr⟩ : ∃ r, n - 8 * (n / 8) = r := ⟨_, rfl⟩
      have hrm : n % 8 = r := by omega
      have hr8 : r < 8 := by omega
      have hnI : r ≤ n := by omega
      obtain ⟨u, hu⟩ : ∃ u, u = 8 * (n / 8) := ⟨_, rfl⟩
      have hur : u + r = n := by omega
      obtain ⟨s0, hs0⟩ : ∃ s, sipB F ⟨x0, x1, x2, x3⟩ (n / 8) = s := ⟨_, rfl⟩
      rw [hs0] at hS
      rw [hr] at hA hc' ⊢
      rw [← hu] at hA
      obtain ⟨m1, hm1⟩ : ∃ m, numP (fun j => F (u + j)) r = m := ⟨_, rfl⟩
      have N := Lib.hid (sip_number A' g3 u r c' (fun j => F (u + j)) wr hA (fun j hj => by
        have := hF.cell (u + j) (by omega)
        rwa [Nat.zero_add] at this) (by omega))
      rw [hm1] at N
      obtain ⟨m2, hm2⟩ : ∃ m, bits BinOp.or IntKind.u64 m1 ((n : Int) * 72057594037927936) = m := ⟨_, rfl⟩
      have hwr : IntKind.u64.wrap ((n : Int) * 72057594037927936) = (n : Int) * 72057594037927936 := by rw [IntKind.wrap_u64]; omega
      have W := Lib.hid (sip_word sb m2 s0 wr hS)
      have hcv : IntKind.u64.wrap (n : Int) = (n : Int) := by rw [IntKind.wrap_u64]; omega
      obtain ⟨s5, hs5⟩ : ∃ s, sipW s0 m2 = s := ⟨_, rfl⟩
      rw [hs5] at W
      obtain ⟨x5, hx5⟩ : ∃ x, xorU s5.c 255 = x := ⟨_, rfl⟩
      obtain ⟨s7, hs7⟩ : ∃ s, sipN 4 ⟨s5.a, s5.b, x5, s5.d⟩ = s := ⟨_, rfl⟩
      have hsum : sipSum K F n = xorU (xorU (xorU s7.a s7.b) s7.c) s7.d := by
        unfold sipSum sipE
        rw [HK0.out, HK1.out, HI.out, hs0, hrm, ← hu, hm1, hwr, hm2, hs5, hx5, hs7]
      have HSUM := Lib.hid hsum
      have HS7 := Lib.hid hs7
      have hq5 : bits BinOp.xor IntKind.u64 s5.c 255 = x5 := hx5
      have HB4 := Lib.hid hB
      clear hwr hsum hs7 hs5 hs0 hm1 hS hF hA hc' hx5 hB hur hu hr hrm hnI
      have hrI : (r : Int) < 8 := by omega
      go_wp2_with fail
      refine N.out.mono ?_
      rintro e w5 ⟨rfl, rfl⟩
      go_wp2_with fail
      refine W.out.mono ?_
      rintro e w6 ⟨rfl, hS6, t6⟩
      obtain ⟨e0, e1, e2, e3, f0, f1, f2, f3⟩ := hS6.cells
      have C7 := Lib.hid (sip_round sb 4 ⟨s5.a, s5.b, x5, s5.d⟩ _ (by omega) (hS6.set2 x5))
      rw [HS7.out] at C7
      have HB6 := Lib.hid (two_below HB4.out (Two.setCell (g := sb) (h := sb) (x := ⟨sb, 2, none⟩) t6 (.inl rfl) (.int .u64 x5)) hsl HB4.out.size)
      clear hS6 t6 W N hm2
      go_wp2_with fail
      refine C7.out.mono ?_
      rintro e w8 ⟨rfl, hS8, t8⟩
      obtain ⟨e0, e1, e2, e3, f0, f1, f2, f3⟩ := hS8.cells
      have HB8 := Lib.hid (two_below HB6.out t8 hsl HB6.out.size)
      clear hS8 t8 C7 hq5
      obtain ⟨y1, hy1⟩ : ∃ y, bits BinOp.xor IntKind.u64 s7.a s7.b = y := ⟨_, rfl⟩
      obtain ⟨y2, hy2⟩ : ∃ y, bits BinOp.xor IntKind.u64 y1 s7.c = y := ⟨_, rfl⟩
      obtain ⟨y3, hy3⟩ : ∃ y, bits BinOp.xor IntKind.u64 y2 s7.d = y := ⟨_, rfl⟩
      have hfin : sipSum K F n = y3 := by
        rw [HSUM.out]
        unfold xorU
        rw [hy1, hy2, hy3]
      have HFIN := Lib.hid hfin
      clear hfin
      go_wp2_with fail
      go_region
      go_wp2
      go_ret
      exact ⟨by rw [HFIN.out]; rfl, HB8.out.drew⟩
    · have hlt8 : (8 : Int) ≤ ((n - 8 * k : Nat) : Int) := by omega
      have hcI : ((n - 8 * k : Nat) : Int) ≤ (c' : Int) := by omega
      obtain rfl := hA (by omega)
      have N := Lib.hid (sip_number (some ⟨g3, 8 * k, none⟩) g3 (8 * k) 8 c' (fun j => F (8 * k + j)) wr (fun _ => rfl) (fun j hj => by
        have := hF.cell (8 * k + j) (by omega)
        rwa [Nat.zero_add] at this) (by omega))
      have W := Lib.hid (sip_word sb (numP (fun j => F (8 * k + j)) 8) (sipB F ⟨x0, x1, x2, x3⟩ k) wr hS)
      have hst : sipB F ⟨x0, x1, x2, x3⟩ (k + 1) = sipW (sipB F ⟨x0, x1, x2, x3⟩ k) (numP (fun j => F (8 * k + j)) 8) := rfl
      rw [← hst] at W
      have HB4 := Lib.hid hB
      have HF4 := Lib.hid hF
      clear hS hB hF hA hst
      generalize numP (fun j => F (8 * k + j)) 8 = m at *
      have hm8 : (8 : Int) ≤ (c' : Int) := by omega
      go_wp2_with fail
      refine N.out.mono ?_
      rintro e w5 ⟨rfl, rfl⟩
      go_wp2_with fail
      refine W.out.mono ?_
      rintro e w6 ⟨rfl, hS6, t6⟩
      have HS6 := Lib.hid hS6
      have HT6 := Lib.hid t6
      clear hS6 t6 W N
      go_wp2_with fail
      refine ⟨⟨k + 1, (if c' = 8 then some ⟨g3, 8 * k, none⟩ else some ⟨g3, 8 * k + 8, none⟩), c' - 8, by omega, ?_, ?_, ⟨by omega, by omega⟩, HS6.out, two_below HB4.out HT6.out hsl HB4.out.size, HF4.out.two HT6.out hgne⟩, ?_⟩
      · rw [show n - 8 * k - 8 = n - 8 * (k + 1) by omega]
      · intro hne
        rw [if_neg (by omega), show 8 * k + 8 = 8 * (k + 1) by omega]
      · show n - 8 * k - 8 < n - 8 * k
        omega
end Go.Proofs.YtpanmfdbdgecaaaGreat.C

namespace Go.Proofs.YtpanmfdbdgecaaaGreat.C
open Go.RowKit
set_option linter.unusedVariables false
theorem lit_u8 (a : Nat) (h : a < 256) : Tryz.prog.keyLits 1 5 [.int .u8 (a : Nat)] = some [.int .u8 (a : Nat)] := by
  have hw : (Lit.int .u8 (a : Nat)).wf = true := by
    simp [Lit.wf, IntKind.min, IntKind.max, IntKind.bits, IntKind.signed]
    omega
  simp [Program.keyLits, Tryz.underlying5, hw]
theorem lit_pfx (a b c : Nat) (ha : a < 256) (hb : b < 256) (hc : c < 256) : ∃ L, Tryz.prog.keyLits 3 65 (pfx a b c).toList = some L := by
  have e1 : Tryz.prog.cellsOf 65 = 8 := by kernel_rfl
  have e2 : Tryz.prog.cellsOf 63 = 7 := by kernel_rfl
  have e3 : Tryz.prog.cellsOf 5 = 1 := by kernel_rfl
  have e4 : Tryz.prog.cellsOf 4 = 1 := by kernel_rfl
  have z := lit_u8 0 (by omega)
  have la := lit_u8 a ha
  have lb := lit_u8 b hb
  have lc := lit_u8 c hc
  have z' : Tryz.prog.keyLits 1 5 [.int .u8 0] = some [.int .u8 0] := z
  have k2 : Tryz.prog.keyLits 2 63 [.int .u8 (a : Nat), .int .u8 (b : Nat), .int .u8 (c : Nat), .int .u8 0, .int .u8 0, .int .u8 0, .int .u8 0] = some [.int .u8 (a : Nat), .int .u8 (b : Nat), .int .u8 (c : Nat), .int .u8 0, .int .u8 0, .int .u8 0, .int .u8 0] := by
    unfold Program.keyLits
    simp [Tryz.underlying63, e2, e3, la, lb, lc, z', show List.range 7 = [0, 1, 2, 3, 4, 5, 6] from rfl]
  have k4 : Tryz.prog.keyLits 2 4 [.bool false] = some [.bool false] := by simp [Program.keyLits, Tryz.underlying4]
  refine ⟨[.bool false, .int .u8 (a : Nat), .int .u8 (b : Nat), .int .u8 (c : Nat), .int .u8 0, .int .u8 0, .int .u8 0, .int .u8 0], ?_⟩
  unfold Program.keyLits
  simp [Tryz.underlying65, e1, pfx, e2, e4, k2, k4]
theorem pfx_flat (a b c : Nat) (ha : a < 256) (hb : b < 256) (hc : c < 256) : Flat Tryz.prog 65 (pfx a b c) := by
  obtain ⟨L, hL⟩ := lit_pfx a b c ha hb hc
  exact ⟨3, L, by kernel_rfl, by kernel_rfl, by decide, by kernel_rfl, by kernel_rfl, hL⟩
theorem pfx_pre (a b c : Nat) : Pre (pfx a b c) false := ⟨rfl, rfl, by kernel_rfl⟩
/-- The bytes of a prefix. -/
def pfF (a b c j : Nat) : Nat := [0, a, b, c, 0, 0, 0, 0].getD j 0
theorem pfF_lt {a b c : Nat} (ha : a < 256) (hb : b < 256) (hc : c < 256) (j : Nat) : pfF a b c j < 256 := by
  unfold pfF
  match j with
  | 0 => exact Nat.zero_lt_succ _
  | 1 => exact ha
  | 2 => exact hb
  | 3 => exact hc
  | 4 => exact Nat.zero_lt_succ _
  | 5 => exact Nat.zero_lt_succ _
  | 6 => exact Nat.zero_lt_succ _
  | 7 => exact Nat.zero_lt_succ _
  | j + 8 => exact Nat.zero_lt_succ _
theorem pfx_bytes (a b c : Nat) : bytesP (pfx a b c) false = bv ((List.range 8).map (pfF a b c)) := by kernel_rfl
/-- What a call owns, as a frame's bytes. -/
theorem fr_of_own {w : World} {base n c : Nat} {A : Option Addr} {F : Nat → Nat} (ho : w.ownsRow base 5 1 (.slice A n c) n (bv ((List.range n).map F))) (h0 : 1 ≤ n) (hF : ∀ j, F j < 256) : ∃ g, A = some ⟨g, 0, none⟩ ∧ base ≤ g ∧ FrAt w g 0 n c F := by
  obtain ⟨g3, rfl, hb, hcap⟩ : ∃ g3, A = some ⟨g3, 0, none⟩ ∧ base ≤ g3 ∧ g3 < w.heap.size := by
    rcases ho.2 with ⟨_, h1⟩ | ⟨g2, cap, cur, hv, hg, hh, _⟩
    · exact absurd h1 (by omega)
    · injection hv with h4 h5 h6
      exact ⟨g2, h4, hg, (Array.getElem?_eq_some_iff.1 hh).1⟩
  refine ⟨g3, rfl, hb, fun j hj => ?_, hF, OW.cap ho, hcap⟩
  have := ho.cells (g := g3) rfl j (.int .u8 (F j : Nat)) (by simp [bv, List.getElem?_range hj])
  rw [OW.addr_off] at this
  exact this
/-- The sum of a prefix's bytes. -/
def pfH (a b c : Nat) : Int := sipSum (fun _ => 0) (pfF a b c) 8
section
variable {P : Program} {ops : Array Oper} {rest : List Oper} {a : Act} {w : World} {Q : Exit → Act → World → Prop} {ty : TypeId} {pos : String} {after : Array Edge}
theorem arm_eqlg (d x y : Nat) (t : TypeId) (xs ys : Array Value) {ty' : TypeId} {g : Option (Nat × Bool)} (hfx : Flat P t xs) (hfy : Flat P t ys) (hg : P.eqGuardType P.depth t = false) (hx : a.tmps.getD x undef = .agg xs) (hy : a.tmps.getD y undef = .agg ys)
    (hw : Region.wanted ⟨some d, .binOp .eql t (.tmp x) (.tmp y) ty', ty, pos, after, g⟩ (yielded ops a.tmps) = true) (h : wpList P ops Q rest (a.put (some d) (.bool (eqA xs ys))) w) :
    wpList P ops Q (⟨some d, .binOp .eql t (.tmp x) (.tmp y) ty', ty, pos, after, g⟩ :: rest) a w :=
  wpList_step fun _ hK => by
    rw [if_pos hw]
    have hx' : a.eval (.tmp x) = .agg xs := hx
    have hy' : a.eval (.tmp y) = .agg ys := hy
    have h1 := hfx.equal hfy w
    unfold Oper.wp execOp
    simp [hx', hy', eqGuard, binOp, Sem.run_bind, hg, h1]
    exact hK _ _ h
end
theorem pf_eqg : Tryz.prog.eqGuardType Tryz.prog.depth 65 = false := by kernel_rfl
end Go.Proofs.YtpanmfdbdgecaaaGreat.C

namespace Go.Proofs.YtpanmfdbdgecaaaGreat.C
open Go.RowKit
set_option linter.unusedVariables false
/-- Where a prefix is, and where it might go: from a place on, so many places. -/
noncomputable def fnd (l : List Plc) (p : Array Value) (fr : Nat) : Nat → Nat → Int → Int × Int
  | 0, _, spot => (-1, spot)
  | m + 1, k, spot =>
    match l[(fr + k) % l.length]? with
    | none => (-1, spot)
    | some x =>
      if x.state = 1 ∧ eqA x.p p = true then ((((fr + k) % l.length : Nat) : Int), spot)
      else if x.state = 0 then (-1, if x.state ≠ 1 ∧ spot < 0 then (((fr + k) % l.length : Nat) : Int) else spot)
      else fnd l p fr m (k + 1) (if x.state ≠ 1 ∧ spot < 0 then (((fr + k) % l.length : Nat) : Int) else spot)
def KZ : Array Value := (List.replicate 16 (Value.int .u8 0)).toArray
theorem build_key (w : World) : (Instr.build 22 #[]).run Tryz.prog w = .ok (.agg KZ) w := run_build w 22 _ _ (by kernel_rfl)
theorem plcC_len {l : List Plc} (h : ∀ x ∈ l, x.p.size = 8 ∧ x.p.all (·.oneCell') = true) : ∀ c ∈ l.map plcC, c.length = 11 := fun c hc => by
  obtain ⟨x, hx, rfl⟩ := List.mem_map.1 hc
  simp [plcC, (h x hx).1]
theorem tpl_zero : (Tryz.prog.info? 274).map (fun i => (i.zero, i.size)) = some (some (.agg (plcC plc0).toArray), 11) := by kernel_rfl
theorem tpl_size : (Tryz.prog.info? 274).map (·.size) = some 11 := by kernel_rfl
section
variable {w : World} {pb b room : Nat} {l : List Plc} {n : Int}
theorem TbAt.cells (h : TbAt w pb b l room n) : w.cell? ⟨pb, 0, none⟩ = some (.slice (some ⟨b, 0, none⟩) l.length l.length) ∧ w.cell? ⟨pb, 1, none⟩ = some (.int .i64 (room : Nat)) ∧ w.cell? ⟨pb, 2, none⟩ = some (.int .i64 n) ∧ (∀ j, w.frozen? ⟨pb, j, none⟩ = false) := by
  rw [cell_of_row _ _ _ _ _ _ h.ptr, cell_of_row _ _ _ _ _ _ h.ptr, cell_of_row _ _ _ _ _ _ h.ptr]
  exact ⟨rfl, rfl, rfl, fun j => frozen_of_row _ _ _ _ _ h.ptr⟩
theorem TbAt.at (h : TbAt w pb b l room n) {i : Nat} {x : Plc} (hx : l[i]? = some x) : ∀ (j : Nat) (v : Value), (plcC x).toArray.toList[j]? = some v → (l.map plcC).flatten.toArray[i * 11 + j]? = some v := fun j v hv => by
  have hl := plcC_len h.pre
  have hm : (l.map plcC)[i]? = some (plcC x) := by simp [hx]
  have hxl : (plcC x).length = 11 := hl _ (List.mem_of_getElem? hm)
  rw [List.toList_toArray] at hv
  have hj := (List.getElem?_eq_some_iff.1 hv).1
  rw [List.getElem?_toArray]
  exact (flat_at _ hl i j (plcC x) hm (by omega)).trans hv
end
set_option maxRecDepth 100000 in
set_option maxHeartbeats 2000000 in
theorem table_find (pb b room : Nat) (l : List Plc) (nn : Int) (p0 p1 p2 : Nat) (w : World) (h : TbAt w pb b l room nn) (hpf : ∀ x ∈ l, Flat Tryz.prog 65 x.p) (h0 : p0 < 256) (h1 : p1 < 256) (h2 : p2 < 256) (hl0 : 1 ≤ l.length) (hl1 : l.length ≤ 65536) :
    Calls Tryz.prog 129 #[.pointer (some ⟨pb, 0, none⟩), .agg (pfx p0 p1 p2)] w fun e w' => e = .returned (.tuple #[.int .i64 (fnd l (pfx p0 p1 p2) (pfH p0 p1 p2 % l.length).toNat l.length 0 (-1)).1, .int .i64 (fnd l (pfx p0 p1 p2) (pfH p0 p1 p2 % l.length).toNat l.length 0 (-1)).2]) ∧ Below w.heap.size w w' := by
  have hHr : 0 ≤ pfH p0 p1 p2 ∧ pfH p0 p1 p2 < 18446744073709551616 := sipSum_range _ _ _
  have HPF := Lib.hid hpf
  have HH := Lib.hid h
  have hsk : ∀ (kv : Array Value) (pg g o c : Nat) (w : World), (∀ j, j < 16 → kv[j]? = some (.int .u8 ((0 : Nat) : Int))) → w.cell? ⟨pg, 0, none⟩ = some (.slice (some ⟨g, o, none⟩) 8 c) → FrAt w g o 8 c (pfF p0 p1 p2) → Calls Tryz.prog 166 #[.agg kv, .slice (some ⟨pg, 0, none⟩) 1 1] w fun e w' => e = .returned (.int .u64 (pfH p0 p1 p2)) ∧ Below w.heap.size w w' := fun kv pg g o c w h1 h2 h3 => sip_sum kv (fun _ => 0) pg g o 8 c (pfF p0 p1 p2) w h1 h2 h3 (by omega) (by omega)
  have HSK := Lib.hid hsk
  have hfl := pfx_flat p0 p1 p2 h0 h1 h2
  have hbo := fun w => bytes_of (pfx p0 p1 p2) false w (pfx_pre p0 p1 p2)
  rw [pfx_bytes] at hbo
  have HBO := Lib.hid hbo
  have HFL := Lib.hid hfl
  have hps : (Tryz.prog.info? 65).map (·.size) = some (pfx p0 p1 p2).size := pf_size
  have HPS := Lib.hid hps
  clear hsk hfl hpf h hbo hps
  generalize pfH p0 p1 p2 = H at *
  generalize pfx p0 p1 p2 = p at *
  have hkz := build_key
  have hkz2 : ∀ j, j < 16 → KZ[j]? = some (.int .u8 ((0 : Nat) : Int)) := fun j hj => by
    unfold KZ
    rw [List.getElem?_toArray, List.getElem?_replicate, if_pos hj]
    rfl
  generalize KZ = kz at *
  have HKZ := Lib.hid hkz
  have HKZ2 := Lib.hid hkz2
  clear hkz hkz2
  obtain ⟨n, hn⟩ : ∃ n, l.length = n := ⟨_, rfl⟩
  rw [hn] at hl0 hl1 ⊢
  have HN := Lib.hid hn
  obtain ⟨fr, hfr0⟩ : ∃ fr, (H % (n : Int)).toNat = fr := ⟨_, rfl⟩
  rw [hfr0]
  have htm : H.tmod (n : Int) = (fr : Int) := by
    rw [← hfr0, Int.tmod_eq_emod_of_nonneg hHr.1, Int.toNat_of_nonneg (Int.emod_nonneg _ (by omega))]
  have hfrn : fr < n := by
    have := Int.emod_lt_of_pos H (show (0 : Int) < n by omega)
    have := Int.emod_nonneg H (show (n : Int) ≠ 0 by omega)
    omega
  clear hfr0 hn
  go_enter Tryz.func129, Tryz.ntmps129
  go_upto_region 1 with ((with_reducible refine arm_box 3 1 65 p ?_ ?_); rfl; intro w1 HB HX HS)
  have h1' := HH.out.below HB.out
  obtain ⟨c0, c1, c2, ff⟩ := h1'.cells
  rw [HN.out] at c0
  have HT1 := Lib.hid h1'
  clear h1' c1 c2 ff
  have HLD : Hid (∀ w', Below w1.heap.size w1 w' → (Instr.loadAt 65 (.pointer (some ⟨w.heap.size, 0, none⟩))).run Tryz.prog w' = .ok (.agg p) w' ∧ w'.cell? ⟨pb, 0, none⟩ = some (.slice (some ⟨b, 0, none⟩) n n)) := Lib.hid fun w' q =>
    ⟨box_load (t := 65) (keep_block q HX.out) _ Tryz.underlying65 rfl HPS.out, by rw [(HT1.out.below q).cells.1, HN.out]⟩
  have hpn : ¬ n = 0 := by omega
  have hw1 : IntKind.u64.wrap (n : Int) = (n : Int) := by rw [IntKind.wrap_u64]; omega
  go_wp2_with fail
  refine wp_region_held_drew (S := Below w1.heap.size w1) (by kernel_rfl) (Below.refl _ _).drew (fun hHeld => ?_)
  refine wpAnyH_take (i := 0) (oi := ⟨some 13, _, _, _, _, _⟩) (v := .agg kz) rfl (by kernel_rfl) (by kernel_rfl) (by kernel_rfl) (fun _ _ _ h => h) (Or.inl ⟨by rfl, fun w hSw => exec_build (vals := #[]) (by simp) (HKZ.out w)⟩) hHeld ?_
  try simp only [Act.put, List.setIfInBounds_toArray, List.set_cons_zero, List.set_cons_succ]
  refine wpAnyH_take (i := 1) (oi := ⟨some 14, _, _, _, _, _⟩) (v := .agg p) rfl (by kernel_rfl) (by kernel_rfl) (by kernel_rfl) (fun _ _ _ h => h) (Or.inl ⟨by rfl, fun w hSw => exec_load rfl (HLD.out w hSw).1⟩) hHeld ?_
  try simp only [Act.put, List.setIfInBounds_toArray, List.set_cons_zero, List.set_cons_succ]
  refine wpAnyH_take (i := 5) (oi := ⟨some 18, _, _, _, _, _⟩) (v := ?_) rfl (by kernel_rfl) (by kernel_rfl) (by kernel_rfl) (fun _ _ _ h => h) (Or.inl ⟨by rfl, ?_⟩) hHeld ?_
  rotate_left
  · intro w hSw
    go_simp
    try with_reducible rfl
  try simp only [Act.put, List.setIfInBounds_toArray, List.set_cons_zero, List.set_cons_succ]
  refine wpAnyH_take (i := 6) (oi := ⟨some 19, _, _, _, _, _⟩) (v := ?_) rfl (by kernel_rfl) (by kernel_rfl) (by kernel_rfl) (fun _ _ _ h => h) (Or.inl ⟨by rfl, ?_⟩) hHeld ?_
  rotate_left
  · intro w hSw
    go_simp
    try with_reducible rfl
  try simp only [Act.put, List.setIfInBounds_toArray, List.set_cons_zero, List.set_cons_succ]
  refine wpAnyH_take (i := 7) (oi := ⟨some 20, _, _, _, _, _⟩) (v := ?_) rfl (by kernel_rfl) (by kernel_rfl) (by kernel_rfl) (fun _ _ _ h => h) (Or.inl ⟨by rfl, ?_⟩) hHeld ?_
  rotate_left
  · intro w hSw
    go_simp
    try with_reducible rfl
  try simp only [Act.put, List.setIfInBounds_toArray, List.set_cons_zero, List.set_cons_succ]
  refine wpAnyH_take (i := 8) (oi := ⟨some 21, _, _, _, _, _⟩) (v := ?_) rfl (by kernel_rfl) (by kernel_rfl) (by kernel_rfl) (fun _ _ _ h => h) (Or.inl ⟨by rfl, ?_⟩) hHeld ?_
  rotate_left
  · intro w hSw
    obtain k0 := (HLD.out w hSw).2
    go_simp
    try with_reducible rfl
  try simp only [Act.put, List.setIfInBounds_toArray, List.set_cons_zero, List.set_cons_succ]
  refine wpAnyH_take (i := 9) (oi := ⟨some 22, _, _, _, _, _⟩) (v := ?_) rfl (by kernel_rfl) (by kernel_rfl) (by kernel_rfl) (fun _ _ _ h => h) (Or.inl ⟨by rfl, ?_⟩) hHeld ?_
  rotate_left
  · intro w hSw
    go_simp
    try with_reducible rfl
  try simp only [Act.put, List.setIfInBounds_toArray, List.set_cons_zero, List.set_cons_succ]
  refine wpAnyH_take (i := 10) (oi := ⟨some 23, _, _, _, _, _⟩) (v := ?_) rfl (by kernel_rfl) (by kernel_rfl) (by kernel_rfl) (fun _ _ _ h => h) (Or.inl ⟨by rfl, ?_⟩) hHeld ?_
  rotate_left
  · intro w hSw
    go_simp
    try with_reducible rfl
  try simp only [Act.put, List.setIfInBounds_toArray, List.set_cons_zero, List.set_cons_succ]
  refine wpAnyH_ready (rs := [2]) (by kernel_rfl) (by simp) ?_
  refine AllReadyH.cons rfl (fun K hK => ?_) AllReadyH.nil
  go_simp
  go_wp2_with (go_at_call 163; go_must (refine (HBO.out _).mono ?_; rintro e w2 ⟨u, rfl, ho, hB⟩))
  refine hK.out _ _ (hHeld.trans (hB.mono hHeld.size)) (fun hHeld => ?_)
  clear hK K
  obtain ⟨A2, cp2, rfl⟩ := OW.slice ho
  obtain ⟨g2, rfl, _, hfr⟩ := fr_of_own ho (by omega) (pfF_lt h0 h1 h2)
  have HFR := Lib.hid hfr
  clear ho hB hfr
  have hpc := cells_of_row (Go.heap_alloc_new w2 (.cells #[.slice (some ⟨g2, 0, none⟩) 8 cp2] 37)) 0 _ rfl
  have hf3 := HFR.out.below HFR.out.blk ((Below.refl w2.heap.size w2).alloc (Nat.le_refl _) (.cells #[.slice (some ⟨g2, 0, none⟩) 8 cp2] 37)) (Nat.le_refl _)
  have HPC := Lib.hid hpc
  have HF3 := Lib.hid hf3
  clear hpc hf3
  refine wpAnyH_ready (rs := [3]) (by kernel_rfl) (by simp) ?_
  refine AllReadyH.cons rfl (fun K hK => ?_) AllReadyH.nil
  go_simp
  refine hK.out _ _ (hHeld.alloc hHeld.size _) (fun hHeld => ?_)
  clear hK K
  refine wpAnyH_ready (rs := [4]) (by kernel_rfl) (by simp) ?_
  refine AllReadyH.cons rfl (fun K hK => ?_) AllReadyH.nil
  go_simp
  go_wp2_with (go_at_call 166; go_must (refine (HSK.out kz _ _ _ _ _ HKZ2.out HPC.out HF3.out).mono ?_; rintro e w4 ⟨rfl, hB⟩))
  refine hK.out _ _ (hHeld.trans (hB.mono hHeld.size)) (fun hHeld => ?_)
  clear hK K
  refine wpAnyH_take (i := 11) (oi := ⟨some 24, _, _, _, _, _⟩) (v := ?_) rfl (by kernel_rfl) (by kernel_rfl) (by kernel_rfl) (fun _ _ _ h => h) (Or.inl ⟨by rfl, ?_⟩) hHeld ?_
  rotate_left
  · intro w hSw
    go_simp
    try with_reducible rfl
  try simp only [Act.put, List.setIfInBounds_toArray, List.set_cons_zero, List.set_cons_succ]
  refine wpAnyH_take (i := 12) (oi := ⟨some 7, _, _, _, _, _⟩) (v := ?_) rfl (by kernel_rfl) (by kernel_rfl) (by kernel_rfl) (fun _ _ _ h => h) (Or.inl ⟨by rfl, ?_⟩) hHeld ?_
  rotate_left
  · intro w hSw
    go_simp
    try with_reducible rfl
  try simp only [Act.put, List.setIfInBounds_toArray, List.set_cons_zero, List.set_cons_succ]
  refine wpAnyH_done (by kernel_rfl) ?_ _
  have hw2 : IntKind.i64.wrap (fr : Int) = (fr : Int) := IntWalk.i64_in _ (by omega)
  obtain ⟨wz, hwz⟩ : ∃ z, z = w := ⟨_, rfl⟩
  have k0 := (HLD.out _ hHeld).2
  have HBH := Lib.hid hHeld
  clear hHeld
  go_upto_region 6 with (fail)
  have htz := tpl_zero
  obtain ⟨TZ, hTZ⟩ : ∃ Z, (plcC plc0).toArray = Z := ⟨_, rfl⟩
  have hTZs : TZ.size = 11 := by rw [← hTZ]; rfl
  rw [hTZ] at htz
  have HTZ := Lib.hid htz
  have HTZS := Lib.hid hTZs
  clear htz hTZs hTZ k0 c0
  go_loopw [6, 30] (fun s t wr => ∃ (k : Nat) (spot : Int), k ≤ n ∧ s = .int .i64 spot ∧ t = .int .i64 (k : Nat) ∧ (-1 ≤ spot ∧ spot < n) ∧ fnd l p fr (n - k) k spot = fnd l p fr n 0 (-1) ∧ Below w1.heap.size w1 wr) (fun _ t _ => n - (intOf t).toNat)
  case atStart => exact ⟨0, -1, by omega, rfl, rfl, by omega, rfl, HBH.out⟩
  case round =>
    obtain ⟨k, spot, hk, rfl, rfl, hsp, hfn, hB⟩ := hrel
    have HB3 := Lib.hid hB
    have HFN := Lib.hid hfn
    clear hB hfn
    have hs1 := HB.out.size
    by_cases hkn : k = n
    · subst hkn
      have e0 : fnd l p fr (k - k) k spot = (-1, spot) := by rw [Nat.sub_self]; rfl
      have e1 := HFN.out
      rw [e0] at e1
      have HE1 := Lib.hid e1
      clear e0 e1
      go_wp2
      go_ret2
      exact ⟨by rw [← HE1.out]; rfl, HB.out.trans (HB3.out.mono hs1)⟩
    · have hlt : (k : Int) < (n : Int) := by omega
      have hkw : IntKind.i64.wrap ((k : Int) + 1) = ((k + 1 : Nat) : Int) := by rw [IntWalk.i64_in _ (by omega)]; omega
      obtain ⟨at', hat⟩ : ∃ a, (fr + k) % n = a := ⟨_, rfl⟩
      have hatn : at' < n := by rw [← hat]; exact Nat.mod_lt _ (by omega)
      have haw : IntKind.i64.wrap ((fr : Int) + (k : Int)) = ((fr + k : Nat) : Int) := by rw [IntWalk.i64_in _ (by omega)]; omega
      have htm2 : (((fr + k : Nat) : Int)).tmod (n : Int) = (at' : Int) := by rw [Int.tmod_eq_emod_of_nonneg (by omega), ← hat]; omega
      have htm3 : ((fr : Int) + (k : Int)).tmod (n : Int) = (at' : Int) := by rw [← htm2]; congr 1
      obtain ⟨x, hx⟩ : ∃ x, l[at']? = some x := ⟨_, List.getElem?_eq_getElem (by rw [HN.out]; exact hatn)⟩
      have hT3 := HT1.out.below HB3.out
      have k0 := (HLD.out _ HB3.out).2
      have hatI : (at' : Int) < (n : Int) := by omega
      have hld := box_load_mid (t := 274) hT3.row (hT3.at hx) _ Tryz.underlying274 rfl (by rw [List.size_toArray, plcC_len hT3.pre _ (by exact List.mem_map.2 ⟨x, List.mem_of_getElem? hx, rfl⟩)]; exact tpl_size)
      have hst0 : wr.cell? ⟨b, at' * 11, none⟩ = some (.int .i64 x.state) := cells_of_row hT3.row (at' * 11) _ (hT3.at hx 0 _ rfl)
      have hxs : (Tryz.prog.info? 274).map (·.size) = some (plcC x).toArray.size := by rw [List.size_toArray, plcC_len hT3.pre _ (by exact List.mem_map.2 ⟨x, List.mem_of_getElem? hx, rfl⟩)]; exact tpl_size
      have hx11 : (plcC x).toArray.size = 11 := by rw [List.size_toArray]; exact plcC_len hT3.pre _ (by exact List.mem_map.2 ⟨x, List.mem_of_getElem? hx, rfl⟩)
      have hpx := hT3.pre x (List.mem_of_getElem? hx)
      have hxa : (plcC x).toArray.all (·.oneCell') = true := by
        simp [plcC, Value.oneCell', tokV]
        intro i hi
        exact Array.all_eq_true.1 hpx.2 i hi
      have hfs : fnd l p fr (n - k) k spot = if x.state = 1 ∧ eqA x.p p = true then ((at' : Int), spot) else if x.state = 0 then (-1, if x.state ≠ 1 ∧ spot < 0 then (at' : Int) else spot) else fnd l p fr (n - (k + 1)) (k + 1) (if x.state ≠ 1 ∧ spot < 0 then (at' : Int) else spot) := by
        obtain ⟨m, hm⟩ : ∃ m, n - k = m + 1 := ⟨n - k - 1, by omega⟩
        have hm2 : n - (k + 1) = m := by omega
        rw [hm, hm2]
        show (match l[(fr + k) % l.length]? with | none => _ | some x => _) = _
        rw [HN.out, hat, hx]
      have hff := HPF.out x (List.mem_of_getElem? hx)
      have hxp : (plcC x).toArray.extract 1 (1 + 8) = x.p := by
        have hps := hpx.1
        simp [plcC]
        rw [List.take_append_of_le_length (by simp [hps]), List.take_of_length_le (by simp [hps]), Array.toArray_toList]
      have HFS := Lib.hid hfs
      clear hfs
      have hct : ∀ w', Below w1.heap.size w1 w' → w'.cell? ⟨b, at' * 11, none⟩ = some (.int .i64 x.state) := fun w' q => cells_of_row (HT1.out.below q).row (at' * 11) _ ((HT1.out.below q).at hx 0 _ rfl)
      have HCT := Lib.hid hct
      clear hct
      have hX0 : (plcC x).toArray[0]? = some (.int .i64 x.state) := rfl
      generalize (plcC x).toArray = X at *
      have hpsx : (Tryz.prog.info? 65).map (·.size) = some x.p.size := by rw [hpx.1]; exact pf_size
      have HKS := Lib.hid hpsx
      have HXA := Lib.hid hxa
      have HXS := Lib.hid hxs
      have HXP := Lib.hid hxp
      have HX0 := Lib.hid hX0
      have HX11 := Lib.hid hx11
      have HFF := Lib.hid hff
      have HT3 := Lib.hid hT3
      have HXX := Lib.hid hx
      clear hX0 hpsx hxa hxs hxp hx11 hff hT3 hpx hx hat htm2
      generalize x.state = st at *
      generalize x.p = xp at *
      have hs3 := HB3.out.size
      have hbw : b < w1.heap.size := (Array.getElem?_eq_some_iff.1 HT1.out.row).1
      go_upto_region 10 with (first
        | ((with_reducible refine arm_load 49 48 274 _ _ hld ?_ ?_); rfl)
        | ((with_reducible refine arm_alloc 10 274 TZ 11 HTZ.out ?_); intro w5 HB5 HX5 HS5; have hst := box_store (t := 274) (x := X) HX5.out HXS.out HXA.out (HTZS.out.trans HX11.out.symm); have hbx := Lib.hid (box_whole (cs := X) HX5.out (HX11.out.trans HTZS.out.symm)); have hf5 := Lib.hid (below_setCells (b := wr.heap.size) (Nat.le_refl _) X.toList 0 HB5.out))
        | ((with_reducible refine arm_store 10 49 274 _ _ _ hst ?_ ?_ ?_); rfl; rfl))
      have HB6 := Lib.hid (HB3.out.trans (hf5.out.mono hs3))
      have hb6 := hbx.out
      clear hst hld hbx hf5 HX5 HB5 HS5 hst0 k0
      generalize World.setCells w5 _ 0 X.toList = w6 at *
      generalize wr.heap.size = tb at *
      have k0 := (HLD.out _ HB6.out).2
      have hT6 := HT1.out.below HB6.out
      have ks := cells_of_row hb6 0 _ HX0.out
      have hlp := box_load_mid (t := 65) hb6 (of_extract HXP.out) _ Tryz.underlying65 rfl HKS.out
      have hlq := (HLD.out _ HB6.out).1
      have kt := HCT.out _ HB6.out
      have hfin := HB.out.trans (HB6.out.mono hs1)
      have HFIN := Lib.hid hfin
      clear hfin hT6 hb6 hkw hs3 hbw
      by_cases hst1 : st = 1
      · subst hst1
        obtain ⟨q, hq⟩ : ∃ q, eqA xp p = q := ⟨_, rfl⟩
        cases q
        · have e1 : fnd l p fr (n - k) k spot = fnd l p fr (n - (k + 1)) (k + 1) spot := by
            rw [HFS.out, if_neg (by rw [hq]; simp), if_neg (by decide), if_neg (by simp)]
          have HE1 := Lib.hid e1
          clear e1
          go_wp2_with (first | ((with_reducible refine arm_loadg 56 55 65 _ _ hlp ?_ ?_ ?_); rfl; rfl) | ((with_reducible refine arm_loadg 57 3 65 _ _ hlq ?_ ?_ ?_); rfl; rfl) | ((with_reducible refine arm_eqlg 58 56 57 65 xp p HFF.out HFL.out pf_eqg ?_ ?_ ?_ ?_); rfl; rfl; rfl))
          refine ⟨⟨k + 1, spot, by omega, rfl, by congr 1, by omega, by rw [← HE1.out]; exact HFN.out, HB6.out⟩, by simp only [intOf]; omega⟩
        · have e1 : fnd l p fr (n - k) k spot = ((at' : Int), spot) := by
            rw [HFS.out, if_pos ⟨rfl, hq⟩]
          have HE1 := Lib.hid e1
          clear e1
          go_wp2_with (first | ((with_reducible refine arm_loadg 56 55 65 _ _ hlp ?_ ?_ ?_); rfl; rfl) | ((with_reducible refine arm_loadg 57 3 65 _ _ hlq ?_ ?_ ?_); rfl; rfl) | ((with_reducible refine arm_eqlg 58 56 57 65 xp p HFF.out HFL.out pf_eqg ?_ ?_ ?_ ?_); rfl; rfl; rfl))
          go_ret2
          exact ⟨by rw [← HFN.out, HE1.out]; rfl, HFIN.out⟩
      · have hb1 : (st == 1) = false := beq_false_of_ne hst1
        by_cases hst0 : st = 0
        · subst hst0
          by_cases hsp0 : spot < 0
          · have e1 : fnd l p fr (n - k) k spot = (-1, (at' : Int)) := by
              rw [HFS.out, if_neg (by simp), if_pos rfl, if_pos ⟨by decide, hsp0⟩]
            have HE1 := Lib.hid e1
            clear e1
            go_wp2_with (first | ((with_reducible refine arm_loadg 56 55 65 _ _ hlp ?_ ?_ ?_); rfl; rfl) | ((with_reducible refine arm_loadg 57 3 65 _ _ hlq ?_ ?_ ?_); rfl; rfl) | ((with_reducible refine arm_eqlg 58 56 57 65 xp p HFF.out HFL.out pf_eqg ?_ ?_ ?_ ?_); rfl; rfl; rfl))
            go_ret2
            exact ⟨by rw [← HFN.out, HE1.out]; rfl, HFIN.out⟩
          · have e1 : fnd l p fr (n - k) k spot = (-1, spot) := by
              rw [HFS.out, if_neg (by simp), if_pos rfl, if_neg (by omega)]
            have HE1 := Lib.hid e1
            clear e1
            go_wp2_with (first | ((with_reducible refine arm_loadg 56 55 65 _ _ hlp ?_ ?_ ?_); rfl; rfl) | ((with_reducible refine arm_loadg 57 3 65 _ _ hlq ?_ ?_ ?_); rfl; rfl) | ((with_reducible refine arm_eqlg 58 56 57 65 xp p HFF.out HFL.out pf_eqg ?_ ?_ ?_ ?_); rfl; rfl; rfl))
            go_ret2
            exact ⟨by rw [← HFN.out, HE1.out]; rfl, HFIN.out⟩
        · have hb0 : (st == 0) = false := beq_false_of_ne hst0
          by_cases hsp0 : spot < 0
          · have e1 : fnd l p fr (n - k) k spot = fnd l p fr (n - (k + 1)) (k + 1) (at' : Int) := by
              rw [HFS.out, if_neg (by simp [hst1]), if_neg hst0, if_pos ⟨hst1, hsp0⟩]
            have HE1 := Lib.hid e1
            clear e1
            go_wp2_with (first | ((with_reducible refine arm_loadg 56 55 65 _ _ hlp ?_ ?_ ?_); rfl; rfl) | ((with_reducible refine arm_loadg 57 3 65 _ _ hlq ?_ ?_ ?_); rfl; rfl) | ((with_reducible refine arm_eqlg 58 56 57 65 xp p HFF.out HFL.out pf_eqg ?_ ?_ ?_ ?_); rfl; rfl; rfl))
            refine ⟨⟨k + 1, (at' : Int), by omega, rfl, by congr 1, by omega, by rw [← HE1.out]; exact HFN.out, HB6.out⟩, by simp only [intOf]; omega⟩
          · have e1 : fnd l p fr (n - k) k spot = fnd l p fr (n - (k + 1)) (k + 1) spot := by
              rw [HFS.out, if_neg (by simp [hst1]), if_neg hst0, if_neg (by omega)]
            have HE1 := Lib.hid e1
            clear e1
            go_wp2_with (first | ((with_reducible refine arm_loadg 56 55 65 _ _ hlp ?_ ?_ ?_); rfl; rfl) | ((with_reducible refine arm_loadg 57 3 65 _ _ hlq ?_ ?_ ?_); rfl; rfl) | ((with_reducible refine arm_eqlg 58 56 57 65 xp p HFF.out HFL.out pf_eqg ?_ ?_ ?_ ?_); rfl; rfl; rfl))
            refine ⟨⟨k + 1, spot, by omega, rfl, by congr 1, by omega, by rw [← HE1.out]; exact HFN.out, HB6.out⟩, by simp only [intOf]; omega⟩
end Go.Proofs.YtpanmfdbdgecaaaGreat.C
