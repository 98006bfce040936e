/- Cursors: numbers of two bytes. · Ether: frames of no bytes, frames of IPv4 without tags. · Inet: a number of two bytes, the sum of a head's words. · Inet: a packet of IPv4 is parsed. · Ports of UDP; where a flow comes from. -/
import Derived.Test.YtpanmfdbdgecaaaGreatV4
import Derived.Laws.BitsAllLaws
import Derived.RegionTactic
import Derived.Deep.RegionLaw
import Derived.Laws.CopyOwn
namespace Go.Proofs.YtpanmfdbdgecaaaGreat.C
open Go.RowKit
set_option linter.unusedVariables false
/-- Bytes as they lie. -/
def bv (B : List Nat) : List Value := B.map fun n => .int .u8 (n : Nat)
theorem bv_one {B : List Nat} : ∀ u ∈ bv B, u.oneCell' = true := fun u hu => by obtain ⟨n, _, rfl⟩ := List.mem_map.1 hu; rfl
theorem bv_len {B : List Nat} : (bv B).length = B.length := List.length_map _
def pt (x y : Nat) (k : Nat) : Nat := if k = 0 then 0 else if k = 1 then x else x * 256 + y
section
variable {w : World} {base b n c : Nat} {A : Option Addr} {L : List Value} {bad : Bool}
theorem cursor_number_no (h : CuAt w base b A n c L bad) (hn : n ≤ 65536) (hm : n < 2 ∨ bad = true) :
    Calls Tryz.prog 159 #[.pointer (some ⟨b, 0, none⟩), .int .i64 2] w fun e w' => e = .returned (.int .u64 0) ∧ CuAt w' base b A n c L true ∧ Two b b w w' := by
  have C := Lib.hid (cursor_raw_no 2 h hn hm (by omega))
  have HH := Lib.hid h
  clear h hm
  go_enter Tryz.func159, Tryz.ntmps159
  go_wp2_with fail
  refine C.out.mono ?_
  rintro e w1 ⟨rfl, hp, ht⟩
  have HP := Lib.hid hp
  have HT := Lib.hid ht
  clear hp ht C
  go_wp2_with fail
  go_loopw [5, 12] (fun s t wr => s = .int .u64 0 ∧ t = .int .i64 0 ∧ wr = w1) (fun _ _ _ => 0)
  case atStart => exact ⟨rfl, rfl, rfl⟩
  case round =>
    obtain ⟨rfl, rfl, rfl⟩ := hrel
    go_wp2
    go_ret
    obtain ⟨bad', hp, rfl⟩ := HP.out
    refine ⟨rfl, ⟨hp, HH.out.len, HH.out.one, fun hne => ?_⟩, HT.out⟩
    obtain ⟨g, o, h1, h2, h3, h4, h5, h6⟩ := HH.out.row hne
    exact ⟨g, o, h1, h2, Nat.lt_of_lt_of_le h3 HT.out.size, h4, h5, fun j u hu => by rw [World.cell?_of_block (HT.out.block g h3 h5 h5)]; exact h6 j u hu⟩
theorem cursor_u16_no (h : CuAt w base b A n c L bad) (hn : n ≤ 65536) (hm : n < 2 ∨ bad = true) :
    Calls Tryz.prog 108 #[.pointer (some ⟨b, 0, none⟩)] w fun e w' => e = .returned (.int .u16 0) ∧ CuAt w' base b A n c L true ∧ Two b b w w' := by
  have C := Lib.hid (cursor_number_no h hn hm)
  clear h hm
  go_enter Tryz.func108, Tryz.ntmps108
  go_wp2_with fail
  refine C.out.mono ?_
  rintro e w1 ⟨rfl, hp, ht⟩
  have HP := Lib.hid hp
  have HT := Lib.hid ht
  clear hp ht C
  go_wp2
  go_ret
  exact ⟨rfl, HP.out, HT.out⟩
theorem u64_or (x y : Nat) (hx : x < 256) (hy : y < 256) : (x <<< 8) ||| y = x * 256 + y := by
  have := Nat.shiftLeft_add_eq_or_of_lt (a := x) (b := y) (i := 8) (by omega)
  rw [← this, Nat.shiftLeft_eq]
theorem cursor_number_yes (x y : Nat) (R : List Nat) (hx : x < 256) (hy : y < 256) (h : CuAt w base b A n c (bv (x :: y :: R)) false) (hn : n ≤ 65536) (hb : base ≤ b) :
    Calls Tryz.prog 159 #[.pointer (some ⟨b, 0, none⟩), .int .i64 2] w fun e w' => e = .returned (.int .u64 (x * 256 + y : Nat)) ∧ (∃ A' c', CuAt w' base b A' (n - 2) c' (bv R) false) ∧ Two b b w w' := by
  have hlen := h.len
  rw [bv_len] at hlen
  simp only [List.length_cons] at hlen
  have C := Lib.hid (cursor_raw_yes 2 h hn (by omega) (by omega) hb)
  clear h
  go_enter Tryz.func159, Tryz.ntmps159
  go_wp2_with fail
  refine C.out.mono ?_
  rintro e w1 ⟨⟨u, rfl, ho⟩, hp, ht⟩
  have hp' : ∃ A' c', CuAt w1 base b A' (n - 2) c' (bv R) false := hp
  have HP := Lib.hid hp'
  have HT := Lib.hid ht
  have ho' : w1.ownsRow w.heap.size 5 1 u 2 [.int .u8 (x : Nat), .int .u8 (y : Nat)] := ho
  clear hp hp' ht C ho
  obtain ⟨A0, c0, rfl⟩ := OW.slice ho'
  obtain ⟨g, rfl, hcp⟩ : ∃ g, A0 = some ⟨g, 0, none⟩ ∧ 2 ≤ c0 := by
    rcases ho'.2 with ⟨h0, h1⟩ | ⟨g, cap, cur, hv, _, _, h1, _⟩
    · cases h1
    · injection hv with h4 h5 h6
      exact ⟨g, h4, by omega⟩
  have k0 : w1.cell? ⟨g, 0, none⟩ = some (.int .u8 (x : Nat)) := ho'.cells (g := g) rfl 0 _ rfl
  have k1 : w1.cell? ⟨g, 1, none⟩ = some (.int .u8 (y : Nat)) := ho'.cells (g := g) rfl 1 _ rfl
  clear ho'
  go_wp2_with fail
  go_loopw [5, 12] (fun s t wr => ∃ k : Nat, k ≤ 2 ∧ t = .int .i64 (k : Nat) ∧ s = .int .u64 (pt x y k : Nat) ∧ wr = w1) (fun _ t _ => 2 - (intOf t).toNat)
  case atStart => exact ⟨0, by omega, rfl, rfl, rfl⟩
  case round =>
    obtain ⟨k, hk, rfl, rfl, rfl⟩ := hrel
    rcases (show k = 0 ∨ k = 1 ∨ k = 2 by omega) with rfl | rfl | rfl
    · have e0 : pt x y 0 = 0 := rfl
      have ez : bits BinOp.or IntKind.u64 0 (x : Int) = ((x : Nat) : Int) := by
        have h := u64_or_nat 0 x (by decide) (by omega)
        rw [Nat.zero_or] at h
        exact h
      rw [e0]
      go_wp2_with fail
      go_roundw
      case rel => exact ⟨1, by omega, by go_num, rfl, by first | rfl | trivial⟩
      case measure => simp [intOf]
    · have e0 : pt x y 1 = x := rfl
      have ez : bits BinOp.or IntKind.u64 ((x : Int) * 256) (y : Int) = ((x * 256 + y : Nat) : Int) := by
        have h2 := u64_or_nat (x * 256) y (by omega) (by omega)
        have e3 : (x * 256) ||| y = x * 256 + y := by rw [← u64_or x y hx hy, Nat.shiftLeft_eq]
        rw [e3, Int.natCast_mul] at h2
        exact h2
      rw [e0]
      go_wp2_with fail
      go_roundw
      case rel => exact ⟨2, by omega, by go_num, rfl, by first | rfl | trivial⟩
      case measure => simp [intOf]
    · have e0 : pt x y 2 = x * 256 + y := rfl
      rw [e0]
      go_wp2
      go_ret
      exact ⟨rfl, HP.out, HT.out⟩
theorem cursor_u16_yes (x y : Nat) (R : List Nat) (hx : x < 256) (hy : y < 256) (h : CuAt w base b A n c (bv (x :: y :: R)) false) (hn : n ≤ 65536) (hb : base ≤ b) :
    Calls Tryz.prog 108 #[.pointer (some ⟨b, 0, none⟩)] w fun e w' => e = .returned (.int .u16 (x * 256 + y : Nat)) ∧ (∃ A' c', CuAt w' base b A' (n - 2) c' (bv R) false) ∧ Two b b w w' := by
  have C := Lib.hid (cursor_number_yes x y R hx hy h hn hb)
  have hz : x * 256 + y < 65536 := by omega
  clear h
  generalize x * 256 + y = z at *
  have hw : IntKind.u16.wrap (z : Nat) = (z : Nat) := by rw [IntKind.wrap_u16]; omega
  go_enter Tryz.func108, Tryz.ntmps108
  go_wp2_with fail
  refine C.out.mono ?_
  rintro e w1 ⟨rfl, hp, ht⟩
  have HP := Lib.hid hp
  have HT := Lib.hid ht
  clear hp ht C
  go_wp2
  go_ret
  exact ⟨rfl, HP.out, HT.out⟩
end
end Go.Proofs.YtpanmfdbdgecaaaGreat.C

namespace Go.Proofs.YtpanmfdbdgecaaaGreat.C
open Go.RowKit
set_option linter.unusedVariables false
theorem cursor_raw_bad {w : World} {base b n c : Nat} {A : Option Addr} {L : List Value} {bad : Bool} (m : Nat) (h : CuAt w base b A n c L bad) (hn : n ≤ 65536) (hm : n < m ∨ bad = true) (hm2 : m ≤ 65536) :
    Calls Tryz.prog 107 #[.pointer (some ⟨b, 0, none⟩), .int .i64 (m : Nat)] w fun e w' => e = .returned (.slice none 0 0) ∧ CuAt w' base b A n c L true ∧ Two b b w w' := by
  refine (cursor_raw_no m h hn hm hm2).mono ?_
  rintro e w1 ⟨rfl, ⟨bad', hp, rfl⟩, ht⟩
  refine ⟨rfl, ⟨hp, h.len, h.one, fun hne => ?_⟩, ht⟩
  obtain ⟨g, o, h1, h2, h3, h4, h5, h6⟩ := h.row hne
  exact ⟨g, o, h1, h2, Nat.lt_of_lt_of_le h3 ht.size, h4, h5, fun j u hu => by rw [World.cell?_of_block (ht.block g h3 h5 h5)]; exact h6 j u hu⟩
theorem two_below {w w1 w2 : World} {base b : Nat} (p : Below base w w1) (q : Two b b w1 w2) (hb : base ≤ b) (hs : base ≤ w1.heap.size) : Below base w w2 :=
  p.trans ⟨q.os, q.tape, q.output, q.size, fun k hk => q.block k (by omega) (by omega) (by omega)⟩
theorem cells_of_row {w : World} {b : Nat} {C : Array Value} {t : TypeId} {fr : Nat × Nat} (h : w.heap[b]? = some (.cells C t fr)) (j : Nat) (u : Value) (hu : C[j]? = some u) : w.cell? ⟨b, j, none⟩ = some u := by rw [cell_of_row _ _ _ _ _ _ h]; exact hu
theorem add_blk (a : Addr) (i : Nat) : (a.add i).block = a.block := by unfold Addr.add; split <;> rfl
/-- A result that lies in a box, and one that doesn't. -/
theorem results_row_tmp {P : Program} {fn : Func} {p u : Tmp} {ty : TypeId} (h : fn.results = #[.cell p ty, .tmp u]) (tmps : Array Value) (w : World) (g : Nat) (t : TypeId) (cs : Array Value) (fr : Nat × Nat) (d : TypeDesc)
    (hp : tmps.getD p undef = .pointer (some ⟨g, 0, none⟩)) (hg : w.heap[g]? = some (.cells cs t fr))
    (hu : P.underlying ty = some d) (hd : (match d with | .struct _ | .array _ _ => true | _ => false) = true) (hi : (P.info? ty).map (·.size) = some cs.size) :
    (results fn tmps).run P w = .ok (.tuple #[.agg cs, tmps.getD u undef]) w := by
  rw [results_cell_tmp h, hp]
  simp [asAddr, run_loadVar_row w g t ty cs fr d hg hu hd hi]
theorem box2 {w : World} {b : Nat} {u0 u1 : Value} {t : TypeId} (h : w.heap[b]? = some (.cells #[u0, u1] t (0, 0))) (v0 v1 : Value) : ((w.setCell ⟨b, 0, none⟩ v0).setCell ⟨b, 1, none⟩ v1).heap[b]? = some (.cells #[v0, v1] t (0, 0)) :=
  heap_setCell_same _ _ 1 _ _ v1 (heap_setCell_same _ _ 0 _ _ v0 h)
set_option maxRecDepth 100000 in
theorem ether_nil (w : World) : Calls Tryz.prog 52 #[.slice none 0 0] w fun e w' => e = .returned (.tuple #[.agg #[.bool false, .int .i64 0], .int .i64 1]) ∧ Below w.heap.size w w' := by
  go_enter Tryz.func52, Tryz.ntmps52
  go_upto_region 1 with (fail)
  have b0 : Below w.heap.size w (w.alloc (.cells #[.bool false, .int .i64 0] 165)) := (Below.refl _ _).alloc (Nat.le_refl _) _
  have x0 := Go.heap_alloc_new w (.cells #[.bool false, .int .i64 0] 165)
  have s0 : w.heap.size < (w.alloc (.cells #[.bool false, .int .i64 0] 165)).heap.size := by simp
  generalize hg : w.heap.size = p0 at *
  generalize w.alloc (.cells #[.bool false, .int .i64 0] 165) = w0 at *
  have X0 := Lib.hid x0
  have B0 := Lib.hid b0
  have HG := Lib.hid hg
  clear x0 b0 hg
  have C := Lib.hid (cursor_new_nil w0)
  go_wp2_with fail
  refine C.out.mono ?_
  rintro e w1 ⟨rfl, hc, hb⟩
  have B1 := Lib.hid (B0.out.trans (hb.mono (Nat.le_of_lt s0)))
  have X1 := Lib.hid (keep_block hb X0.out)
  have hs1 := hb.size
  generalize w0.heap.size = cb at *
  clear hb C X0 B0
  have CR := Lib.hid (cursor_raw_bad 12 hc (by omega) (.inl (by omega)) (by omega))
  clear hc
  go_wp2_with fail
  refine CR.out.mono ?_
  rintro e w2 ⟨rfl, hc, ht⟩
  have B2 := Lib.hid (two_below B1.out ht (by omega) (by omega))
  have X2 : Hid (w2.heap[p0]? = _) := Lib.hid ((ht.block p0 (by omega) (by omega) (by omega)).trans X1.out)
  have hs2 := ht.size
  clear ht CR X1 B1
  have CU := Lib.hid (cursor_u16_no hc (by omega) (.inr rfl))
  clear hc
  go_wp2_with fail
  refine CU.out.mono ?_
  rintro e w3 ⟨rfl, hc, ht⟩
  have B3 := Lib.hid (two_below B2.out ht (by omega) (by omega))
  have X3 : Hid (w3.heap[p0]? = _) := Lib.hid ((ht.block p0 (by omega) (by omega) (by omega)).trans X2.out)
  have CB := Lib.hid (cursor_bad hc)
  have hs3 := ht.size
  clear ht hc CU X2 B2
  go_wp2_with fail
  go_loopw [3, 5, 6] (fun r s t wr => r = .int .i64 0 ∧ s = .int .u16 0 ∧ t = .int .i64 0 ∧ wr = w3) (fun _ _ _ _ => 0)
  case atStart => exact ⟨rfl, rfl, rfl, rfl⟩
  case round =>
    obtain ⟨rfl, rfl, rfl, rfl⟩ := hrel
    go_wp2_with fail
    refine CB.out.mono ?_
    rintro e w4 ⟨rfl, rfl⟩
    have k0 := cells_of_row X3.out 0 _ rfl
    have k1 := cells_of_row X3.out 1 _ rfl
    have f0 := frozen_of_row _ _ 0 _ _ X3.out
    have f1 := frozen_of_row _ _ 1 _ _ X3.out
    have B4 := Lib.hid ((B3.out.setCell (p := ⟨p0, 0, none⟩) (Nat.le_refl _) (.bool false)).setCell (p := ⟨p0, 1, none⟩) (Nat.le_refl _) (.int .i64 0))
    have HX4 := Lib.hid (box2 X3.out (.bool false) (.int .i64 0))
    clear X3
    go_wp2
    refine bodyPost_ret (results_row_tmp rfl _ _ _ _ _ _ _ rfl HX4.out Tryz.underlying165 rfl rfl) rfl ?_
    exact ⟨rfl, by rw [HG.out]; exact B4.out⟩
set_option maxRecDepth 100000 in
/-- A frame of IPv4 without tags: what it carries begins at 14. -/
theorem ether_ip4 (a : Addr) (n c : Nat) (B R : List Nat) (w : World) (hB : B.length = n) (hR : B.drop 12 = 8 :: 0 :: R) (hc : ∀ (j : Nat) (u : Value), (bv B)[j]? = some u → w.cell? (a.add j) = some u) (hn : n ≤ 65536) (ha : a.block < w.heap.size) :
    Calls Tryz.prog 52 #[.slice (some a) n c] w fun e w' => e = .returned (.tuple #[.agg #[.bool false, .int .i64 14], .int .i64 0]) ∧ Below w.heap.size w w' := by
  have hn2 : 14 ≤ n := by
    have := congrArg List.length hR
    rw [List.length_drop] at this
    simp only [List.length_cons] at this
    omega
  have hw14 : IntKind.i64.wrap ((n : Int) - ((n - 12 - 2 : Nat) : Int)) = 14 := by rw [IntWalk.i64_in _ (by omega)]; omega
  go_enter Tryz.func52, Tryz.ntmps52
  go_upto_region 1 with (fail)
  have b0 : Below w.heap.size w (w.alloc (.cells #[.bool false, .int .i64 0] 165)) := (Below.refl _ _).alloc (Nat.le_refl _) _
  have x0 := Go.heap_alloc_new w (.cells #[.bool false, .int .i64 0] 165)
  have s0 : w.heap.size < (w.alloc (.cells #[.bool false, .int .i64 0] 165)).heap.size := by simp
  have HCC : Hid (∀ (j : Nat) (u : Value), (bv B)[j]? = some u → (w.alloc (.cells #[.bool false, .int .i64 0] 165)).cell? (a.add j) = some u) := Lib.hid fun j u hu => by
    rw [b0.cell (by rw [add_blk]; exact ha)]
    exact hc j u hu
  generalize hg : w.heap.size = p0 at *
  generalize w.alloc (.cells #[.bool false, .int .i64 0] 165) = w0 at *
  have X0 := Lib.hid x0
  have B0 := Lib.hid b0
  have HG := Lib.hid hg
  clear x0 b0 hg hc
  have C := Lib.hid (cursor_new a n c (bv B) w0 (by rw [bv_len]; exact hB) HCC.out bv_one hn (by have := HG.out; omega))
  clear HCC
  go_wp2_with fail
  refine C.out.mono ?_
  rintro e w1 ⟨cb, A1, c1, rfl, hcb, hc, hb⟩
  have B1 := Lib.hid (B0.out.trans (hb.mono (Nat.le_of_lt s0)))
  have X1 := Lib.hid (keep_block hb X0.out)
  have hs1 := hb.size
  generalize w0.heap.size = base at *
  clear hb C X0 B0
  have CR := Lib.hid (cursor_raw_yes 12 hc hn (by omega) (by omega) hcb)
  clear hc
  go_wp2_with fail
  refine CR.out.mono ?_
  rintro e w2 ⟨⟨u, rfl, _⟩, hc, ht⟩
  obtain ⟨A2, c2, hc⟩ := hc
  have hc' : CuAt w2 base cb A2 (n - 12) c2 (bv (8 :: 0 :: R)) false := by
    have e : (bv B).drop 12 = bv (8 :: 0 :: R) := by unfold bv; rw [← List.map_drop, hR]
    rw [← e]
    exact hc
  have B2 := Lib.hid (two_below B1.out ht (by omega) (by omega))
  have X2 : Hid (w2.heap[p0]? = _) := Lib.hid ((ht.block p0 (by omega) (by omega) (by omega)).trans X1.out)
  have hs2 := ht.size
  clear ht CR X1 B1 hc
  have CU := Lib.hid (cursor_u16_yes 8 0 R (by omega) (by omega) hc' (by omega) hcb)
  clear hc'
  go_wp2_with fail
  refine CU.out.mono ?_
  rintro e w3 ⟨rfl, hc, ht⟩
  obtain ⟨A3, c3, hc⟩ := hc
  have B3 := Lib.hid (two_below B2.out ht (by omega) (by omega))
  have X3 : Hid (w3.heap[p0]? = _) := Lib.hid ((ht.block p0 (by omega) (by omega) (by omega)).trans X2.out)
  have CB := Lib.hid (cursor_bad hc)
  have CL := Lib.hid (cursor_left hc (by omega))
  have hs3 := ht.size
  clear ht hc CU X2 B2
  go_wp2_with fail
  go_loopw [3, 5, 6] (fun r s t wr => r = .int .i64 0 ∧ s = .int .u16 2048 ∧ t = .int .i64 0 ∧ wr = w3) (fun _ _ _ _ => 0)
  case atStart => exact ⟨rfl, rfl, rfl, rfl⟩
  case round =>
    obtain ⟨rfl, rfl, rfl, rfl⟩ := hrel
    go_wp2_with fail
    refine CB.out.mono ?_
    rintro e w4 ⟨rfl, rfl⟩
    have k0 := cells_of_row X3.out 0 _ rfl
    have k1 := cells_of_row X3.out 1 _ rfl
    have f0 := frozen_of_row _ _ 0 _ _ X3.out
    have f1 := frozen_of_row _ _ 1 _ _ X3.out
    have B4 := Lib.hid ((B3.out.setCell (p := ⟨p0, 0, none⟩) (Nat.le_refl _) (.bool false)).setCell (p := ⟨p0, 1, none⟩) (Nat.le_refl _) (.int .i64 14))
    have HX4 := Lib.hid (box2 X3.out (.bool false) (.int .i64 14))
    clear X3
    go_wp2_with fail
    refine CL.out.mono ?_
    rintro e w4 ⟨rfl, rfl⟩
    go_wp2
    refine bodyPost_ret (results_row_tmp rfl _ _ _ _ _ _ _ rfl HX4.out Tryz.underlying165 rfl rfl) rfl ?_
    exact ⟨rfl, by rw [HG.out]; exact B4.out⟩
end Go.Proofs.YtpanmfdbdgecaaaGreat.C

namespace Go.Proofs.YtpanmfdbdgecaaaGreat.C
open Go.RowKit
set_option linter.unusedVariables false
theorem i64_or_nat (a b : Nat) (ha : a < 9223372036854775808) (hb : b < 9223372036854775808) : bits .or .i64 (a : Int) (b : Int) = ((a ||| b : Nat) : Int) := by
  have hx : a ||| b < 2 ^ 63 := Nat.or_lt_two_pow (by omega) (by omega)
  show IntKind.i64.wrap ((BitVec.ofInt 64 (a : Int) ||| BitVec.ofInt 64 (b : Int)).toNat : Int) = _
  rw [BitVec.toNat_or, ofInt_u64 a (by omega), ofInt_u64 b (by omega), IntKind.wrap_i64]
  omega
theorem i64_and_nat (a b : Nat) (ha : a < 9223372036854775808) (hb : b < 9223372036854775808) : bits .and .i64 (a : Int) (b : Int) = ((a &&& b : Nat) : Int) := by
  have hx : a &&& b < 2 ^ 63 := Nat.and_lt_two_pow _ (by omega)
  show IntKind.i64.wrap ((BitVec.ofInt 64 (a : Int) &&& BitVec.ofInt 64 (b : Int)).toNat : Int) = _
  rw [BitVec.toNat_and, ofInt_u64 a (by omega), ofInt_u64 b (by omega), IntKind.wrap_i64]
  omega
theorem i64_two (x y : Nat) (hx : x < 256) (hy : y < 256) : bits BinOp.or IntKind.i64 ((x : Int) * 256) (y : Int) = ((x * 256 + y : Nat) : Int) := by
  have h2 := i64_or_nat (x * 256) y (by omega) (by omega)
  have e3 : (x * 256) ||| y = x * 256 + y := by rw [← u64_or x y hx hy, Nat.shiftLeft_eq]
  rw [e3, Int.natCast_mul] at h2
  exact h2
theorem inet_two (g o k n c x y : Nat) (w : World) (hx : w.cell? ⟨g, o + k, none⟩ = some (.int .u8 (x : Nat))) (hy : w.cell? ⟨g, o + (k + 1), none⟩ = some (.int .u8 (y : Nat))) (h1 : x < 256) (h2 : y < 256) (hk : k + 1 < n) (hn : n ≤ 65536) :
    Calls Tryz.prog 111 #[.slice (some ⟨g, o, none⟩) n c, .int .i64 (k : Nat)] w fun e w' => e = .returned (.int .i64 (x * 256 + y : Nat)) ∧ w' = w.drew := by
  have e := i64_two x y h1 h2
  have hkI : (k : Int) < (n : Int) := by omega
  have hkI1 : (k : Int) + 1 < (n : Int) := by omega
  have hw1 : IntKind.i64.wrap ((k : Int) + 1) = ((k + 1 : Nat) : Int) := by rw [IntWalk.i64_in _ (by omega)]; omega
  go_enter Tryz.func111, Tryz.ntmps111
  go_wp2_with fail
  go_region
  go_wp2
  go_ret
  exact ⟨rfl, rfl⟩
/-- The sum of the first words of bytes. -/
def wsum (B : Nat → Nat) : Nat → Nat
  | 0 => 0
  | k + 1 => wsum B k + (B (2 * k) * 256 + B (2 * k + 1))
theorem wsum_le (B : Nat → Nat) (hB : ∀ j, B j < 256) : ∀ k, wsum B k ≤ k * 65535
  | 0 => Nat.le_refl _
  | k + 1 => by
    have := wsum_le B hB k
    have := hB (2 * k)
    have := hB (2 * k + 1)
    simp only [wsum]
    omega
theorem fold_step (t : Nat) (ht : t < 32768) (h2 : 2 ≤ t) : ∃ u, 1 ≤ u ∧ u < t ∧ t * 65535 / 65536 + t * 65535 % 65536 = u * 65535 := by
  have e : t * 65535 = (t - 1) * 65536 + (65536 - t) := by omega
  refine ⟨1, by omega, by omega, ?_⟩
  rw [e]
  omega
set_option maxRecDepth 100000 in
theorem inet_sum (g o c : Nat) (B : Nat → Nat) (w : World) (hc : ∀ j, j < 20 → w.cell? ⟨g, o + j, none⟩ = some (.int .u8 (B j : Nat))) (hB : ∀ j, B j < 256) (hcap : 20 < c) (hcm : c ≤ maxLen) (hs : wsum B 10 % 65535 = 0) (h1 : 1 ≤ wsum B 10) :
    Calls Tryz.prog 112 #[.slice (some ⟨g, o, none⟩) 20 c] w fun e w' => e = .returned (.int .i64 65535) ∧ ∃ m, w' = w.drewN m := by
  have HC : Hid (∀ (m j : Nat), j < 20 → (w.drewN m).cell? ⟨g, o + j, none⟩ = some (.int .u8 (B j : Nat))) := Lib.hid fun m j hj => hc j hj
  have HLE := Lib.hid (wsum_le B hB)
  simp only [maxLen] at hcm
  clear hc
  go_enter Tryz.func112, Tryz.ntmps112
  go_wp2_with fail
  go_loopw [0, 3] (fun s t wr => ∃ k : Nat, k ≤ 10 ∧ s = .slice (some ⟨g, o + 2 * k, none⟩) (20 - 2 * k) (c - 2 * k) ∧ t = .int .i64 (wsum B k : Nat) ∧ ∃ m, wr = w.drewN m) (fun s _ _ => match s with | .slice _ n _ => n | _ => 0)
  case atStart => exact ⟨0, by omega, rfl, rfl, 0, rfl⟩
  case round =>
    obtain ⟨k, hk, rfl, rfl, m, hm⟩ := hrel
    have HM := Lib.hid hm
    by_cases hk10 : k = 10
    · subst hk10
      have hle := HLE.out 10
      generalize wsum B 10 = S at *
      obtain ⟨t0, rfl⟩ : ∃ t, S = t * 65535 := ⟨S / 65535, by omega⟩
      clear HLE
      go_wp2_with fail
      go_loopw [3] (fun s wq => ∃ t : Nat, (1 ≤ t ∧ t ≤ 10) ∧ s = .int .i64 (t * 65535 : Nat) ∧ wq = wr) (fun s _ => (intOf s).toNat)
      case atStart => exact ⟨t0, by omega, rfl, by rw [hm]⟩
      case round =>
        obtain ⟨t, ht, rfl, rfl⟩ := hrel
        by_cases ht1 : t = 1
        · subst ht1
          go_wp2
          go_ret
          exact ⟨rfl, m, rfl⟩
        · obtain ⟨u, hu1, hu2, hu⟩ := fold_step t (by omega) (by omega)
          obtain ⟨v, hv⟩ : ∃ v, v = t * 65535 := ⟨_, rfl⟩
          have ea : bits BinOp.and IntKind.i64 (v : Int) 65535 = ((v % 65536 : Nat) : Int) := by
            have h := i64_and_nat v 65535 (by omega) (by decide)
            rw [show v &&& 65535 = v % 65536 from Nat.and_two_pow_sub_one_eq_mod _ 16] at h
            rw [show ((65535 : Nat) : Int) = 65535 by omega] at h
            exact h
          rw [← hv]
          rw [← hv] at hu
          have hgt : (65535 : Int) < (v : Int) := by omega
          obtain ⟨lo, hlo⟩ : ∃ lo, lo = v % 65536 := ⟨_, rfl⟩
          rw [← hlo] at ea hu
          have HV := Lib.hid hv
          clear hv
          go_wp2_with fail
          have e2 : (v : Int) / 65536 + (v : Int) % 65536 = ((u * 65535 : Nat) : Int) := by omega
          rw [e2]
          refine ⟨⟨u, by omega, rfl, hm.symm⟩, ?_⟩
          simp only [intOf, Int.toNat_natCast]
          have := HV.out
          omega
    · have CT := Lib.hid (inet_two g (o + 2 * k) 0 (20 - 2 * k) (c - 2 * k) (B (2 * k)) (B (2 * k + 1)) wr (by rw [hm]; exact HC.out m (2 * k) (by omega)) (by rw [hm]; exact HC.out m (2 * k + 1) (by omega)) (hB _) (hB _) (by omega) (by omega))
      clear hm
      have hlt : (1 : Int) < ((20 - 2 * k : Nat) : Int) := by omega
      go_wp2_with fail
      refine CT.out.mono ?_
      rintro e w2 ⟨rfl, hw2⟩
      go_wp2_with fail
      have hle := HLE.out k
      have hb0 := hB (2 * k)
      have hb1 := hB (2 * k + 1)
      refine ⟨⟨k + 1, by omega, ?_, ?_, m + 1, ?_⟩, ?_⟩
      · rw [show o + 2 * k + 2 = o + 2 * (k + 1) by omega, show 20 - 2 * k - 2 = 20 - 2 * (k + 1) by omega, show c - 2 * k - 2 = c - 2 * (k + 1) by omega]
      · congr 1
        simp only [wrap64, wsum]
        omega
      · rw [HM.out]
        exact World.drewN_drewN w m 1
      · show 20 - 2 * k - 2 < 20 - 2 * k
        omega
end Go.Proofs.YtpanmfdbdgecaaaGreat.C

namespace Go.Proofs.YtpanmfdbdgecaaaGreat.C
open Go.RowKit
set_option linter.unusedVariables false
/-! Boxes of whatever struct: whole stores, whole loads, steps of a region that draws its order. -/
theorem box_store {t : TypeId} {w : World} {b : Nat} {C x : Array Value} {t' : TypeId} (h : w.heap[b]? = some (.cells C t' (0, 0))) (hi : (Tryz.prog.info? t).map (·.size) = some x.size) (h1 : x.all (·.oneCell') = true) (hC : C.size = x.size) : (Instr.storeAt t (.pointer (some ⟨b, 0, none⟩)) (.agg x)).run Tryz.prog w = .ok () (w.setCells b 0 x.toList) :=
  run_storeAt_mid (P := Tryz.prog) w b 0 t x (there_of_block h (by omega)) hi h1
theorem box_load {t : TypeId} {w : World} {b : Nat} {x : Array Value} {t' : TypeId} (h : w.heap[b]? = some (.cells x t' (0, 0))) (d : TypeDesc) (hd : Tryz.prog.underlying t = some d) (hr : d.isRow = true) (hi : (Tryz.prog.info? t).map (·.size) = some x.size) : (Instr.loadAt t (.pointer (some ⟨b, 0, none⟩))).run Tryz.prog w = .ok (.agg x) w := by
  have := run_loadAt_mid (P := Tryz.prog) w b 0 t x.toList d (range_of_block h fun j v hv => by simpa using hv) hd hr (by rw [hi, Array.length_toList])
  simpa using this
section
variable {P : Program} {ops : Array Oper} {a : Act} {w : World} {K : Act → World → Prop} {Q : Exit → Act → World → Prop} {E : Prop} {ty : TypeId} {pos : String} {after : Array Edge}
theorem step_store (s y : Nat) (t : TypeId) (p v : Value) (w' : World) (hl : (Instr.storeAt t p v).run P w = .ok () w') (hx : a.tmps.getD s undef = p) (hy : a.tmps.getD y undef = v) (h : K (a.put none undef) w') :
    if Region.wanted ⟨none, .store t (.tmp s) (.tmp y), ty, pos, after, none⟩ (yielded ops a.tmps) = true then Oper.wp P ⟨none, .store t (.tmp s) (.tmp y), ty, pos, after, none⟩ a w K Q else E := by
  rw [if_pos (by simp [Region.wanted])]
  have hx' : a.eval (.tmp s) = p := hx
  have hy' : a.eval (.tmp y) = v := hy
  unfold Oper.wp execOp
  simp only [hx', hy', Sem.run_bind, hl, Result.andThen_ok, Sem.run_pure]
  exact h
theorem step_alloc (d : Nat) (t : TypeId) (Z : Array Value) (n : Nat) (hz : (P.info? t).map (fun i => (i.zero, i.size)) = some (some (.agg Z), n))
    (h : ∀ W, Hid (Below w.heap.size w W) → Hid (W.heap[w.heap.size]? = some (.cells Z t (0, 0))) → Hid (W.heap.size = w.heap.size + 1) → K (a.put (some d) (.pointer (some ⟨w.heap.size, 0, none⟩))) W) :
    if Region.wanted ⟨some d, .alloc t, ty, pos, after, none⟩ (yielded ops a.tmps) = true then Oper.wp P ⟨some d, .alloc t, ty, pos, after, none⟩ a w K Q else E := by
  rw [if_pos (by simp [Region.wanted])]
  unfold Oper.wp execOp
  simp only [Sem.run_bind, run_alloc_of hz, Result.andThen_ok, Sem.run_pure]
  exact h _ (Lib.hid ((Below.refl _ _).alloc (Nat.le_refl _) _)) (Lib.hid (Go.heap_alloc_new _ _)) (Lib.hid (by simp))
theorem step_copy {dst : Option Nat} (d s : Nat) (dT sT : TypeId) (dv sv r : Value) (w' : World) (hrun : (Builtin.copy_ #[dT, sT] ty #[dv, sv]).run P w = .ok r w') (hd : a.tmps.getD d undef = dv) (hs : a.tmps.getD s undef = sv) (h : K (a.put dst r) w') :
    if Region.wanted ⟨dst, .call { callee := .builtin .copy, args := #[.tmp d, .tmp s], argTypes := #[dT, sT] }, ty, pos, after, none⟩ (yielded ops a.tmps) = true then Oper.wp P ⟨dst, .call { callee := .builtin .copy, args := #[.tmp d, .tmp s], argTypes := #[dT, sT] }, ty, pos, after, none⟩ a w K Q else E := by
  rw [if_pos (by simp [Region.wanted])]
  have hd' : a.eval (.tmp d) = dv := hd
  have hs' : a.eval (.tmp s) = sv := hs
  unfold Oper.wp
  simp [execOp, resolve, invoke, builtin, hd', hs', hrun, Result.andThen]
  exact h
end
theorem OW.setCells {w : World} {base n : Nat} {e : TypeId} {size : Nat} {v : Value} {xs : List Value} {b j : Nat} (o : w.ownsRow base e size v n xs) (h : v.ownBlock ≠ some b) (cs : List Value) : (w.setCells b j cs).ownsRow base e size v n xs := by
  refine ⟨o.1, ?_⟩
  rcases o.2 with h0 | ⟨q, cp, cur, rfl, hg, hh, r⟩
  · exact .inl h0
  · refine .inr ⟨q, cp, cur, rfl, hg, ?_, r⟩
    rw [heap_setCells_other _ _ _ _ _ (by simp [Value.ownBlock] at h; simpa using h)]
    exact hh
theorem OW.mono {w : World} {base base' n : Nat} {e : TypeId} {size : Nat} {v : Value} {xs : List Value} (o : w.ownsRow base e size v n xs) (h : base' ≤ base) : w.ownsRow base' e size v n xs := by
  refine ⟨o.1, ?_⟩
  rcases o.2 with h0 | ⟨q, cp, cur, rfl, hg, r⟩
  · exact .inl h0
  · exact .inr ⟨q, cp, cur, rfl, Nat.le_trans h hg, r⟩
/-- A frame's bytes as they lie. -/
structure FrAt (w : World) (g o n c : Nat) (B : Nat → Nat) : Prop where
  cell : ∀ j, j < n → w.cell? ⟨g, o + j, none⟩ = some (.int .u8 (B j : Nat))
  byte : ∀ j, B j < 256
  cap : n ≤ c ∧ c ≤ maxLen
  blk : g < w.heap.size
theorem FrAt.below {w w' : World} {base g o n c : Nat} {B : Nat → Nat} (h : FrAt w g o n c B) (hg : g < base) (p : Below base w w') (hs : base ≤ w.heap.size) : FrAt w' g o n c B :=
  ⟨fun j hj => by rw [World.cell?_of_block (p.block g hg)]; exact h.cell j hj, h.byte, h.cap, Nat.lt_of_lt_of_le h.blk p.size⟩
def NZ : Array Value := ([Value.int .u8 0] ++ List.replicate 32 (Value.int .u8 0) ++ [Value.slice none 0 0, Value.bool false]).toArray
theorem nz_zero : (Tryz.prog.info? 170).map (fun i => (i.zero, i.size)) = some (some (.agg NZ), 35) := by kernel_rfl
theorem nz_size : (Tryz.prog.info? 170).map (·.size) = some 35 := by kernel_rfl
/-- What is built of a head: its protocol, what stands behind it. -/
def netB (p : Nat) (v : Value) : Array Value := ([Value.int .u8 (p : Nat)] ++ List.replicate 32 (Value.int .u8 0) ++ [v, Value.bool true]).toArray
theorem build_net (p : Nat) (A : Option Addr) (n c : Nat) (w : World) : (Instr.build 170 #[(0, .int .u8 (p : Nat)), (3, .slice A n c), (4, .bool true)]).run Tryz.prog w = .ok (.agg (netB p (.slice A n c))) w := by
  exact run_build w 170 _ _ (by kernel_rfl)
theorem bytes_size : (Tryz.prog.info? 5).map (·.size) = some 1 := by kernel_rfl
/-- Four bytes are copied to an array of 16. -/
theorem copy_four {W : World} {b j g o cap : Nat} {C : Array Value} {T ty : TypeId} {x0 x1 x2 x3 : Nat} (hb : W.heap[b]? = some (.cells C T (0, 0))) (hj : j + 4 ≤ C.size) (h0 : W.cell? ⟨g, o, none⟩ = some (.int .u8 (x0 : Nat))) (h1 : W.cell? ⟨g, o + 1, none⟩ = some (.int .u8 (x1 : Nat))) (h2 : W.cell? ⟨g, o + 2, none⟩ = some (.int .u8 (x2 : Nat))) (h3 : W.cell? ⟨g, o + 3, none⟩ = some (.int .u8 (x3 : Nat))) :
    (Builtin.copy_ #[37, 37] ty #[.slice (some ⟨b, j, none⟩) 16 16, .slice (some ⟨g, o, none⟩) 4 cap]).run Tryz.prog W = .ok (goInt 4) (W.setCells b j [.int .u8 (x0 : Nat), .int .u8 (x1 : Nat), .int .u8 (x2 : Nat), .int .u8 (x3 : Nat)]) :=
  run_copy_cells (P := Tryz.prog) W 37 37 ty 5 b j 16 16 ⟨g, o, none⟩ 4 cap [.int .u8 (x0 : Nat), .int .u8 (x1 : Nat), .int .u8 (x2 : Nat), .int .u8 (x3 : Nat)] Tryz.underlying37 bytes_size rfl
    (fun k v hv => by
      rw [OW.addr_off]
      match k, hv with
      | 0, hv => rw [← Option.some.inj hv]; exact h0
      | 1, hv => rw [← Option.some.inj hv]; exact h1
      | 2, hv => rw [← Option.some.inj hv]; exact h2
      | 3, hv => rw [← Option.some.inj hv]; exact h3
      | k + 4, hv => simp at hv)
    (fun k hk => (there_of_block (o := j) (n := 4) hb hj k hk).1) (fun k hk => (there_of_block (o := j) (n := 4) hb hj k hk).2) (fun v hv => by simp at hv; rcases hv with rfl | rfl | rfl | rfl <;> rfl)
theorem netB_all (p : Nat) (A : Option Addr) (n c : Nat) : (netB p (.slice A n c)).all (·.oneCell') = true := by kernel_rfl
theorem netB_size (p : Nat) (v : Value) : (netB p v).size = 35 := rfl
def bytesN (B : Nat → Nat) (from' many : Nat) : List Nat := (List.range many).map fun j => B (from' + j)
/-- What is parsed of a head. -/
def netX (p s0 s1 s2 s3 d0 d1 d2 d3 : Nat) (v : Value) : Array Value := ([Value.int .u8 (p : Nat), .int .u8 (s0 : Nat), .int .u8 (s1 : Nat), .int .u8 (s2 : Nat), .int .u8 (s3 : Nat)] ++ List.replicate 12 (Value.int .u8 0) ++ [Value.int .u8 (d0 : Nat), Value.int .u8 (d1 : Nat), Value.int .u8 (d2 : Nat), Value.int .u8 (d3 : Nat)] ++ List.replicate 12 (Value.int .u8 0) ++ [v, Value.bool true]).toArray
theorem netX_all (p s0 s1 s2 s3 d0 d1 d2 d3 : Nat) (A : Option Addr) (n c : Nat) : (netX p s0 s1 s2 s3 d0 d1 d2 d3 (.slice A n c)).all (·.oneCell') = true := by kernel_rfl
theorem net_copy {w0 W : World} {base b j g o cap n : Nat} {v : Value} {xs : List Value} {C : Array Value} {ty : TypeId} {x0 x1 x2 x3 : Nat} (hB : Below base w0 W) (hb0 : base ≤ b) (hb : W.heap[b]? = some (.cells C 170 (0, 0))) (ho : W.ownsRow base 5 1 v n xs) (hj : j + 4 ≤ C.size) (h0 : W.cell? ⟨g, o, none⟩ = some (.int .u8 (x0 : Nat))) (h1 : W.cell? ⟨g, o + 1, none⟩ = some (.int .u8 (x1 : Nat))) (h2 : W.cell? ⟨g, o + 2, none⟩ = some (.int .u8 (x2 : Nat))) (h3 : W.cell? ⟨g, o + 3, none⟩ = some (.int .u8 (x3 : Nat))) :
    ∃ W5, (Builtin.copy_ #[37, 37] ty #[.slice (some ⟨b, j, none⟩) 16 16, .slice (some ⟨g, o, none⟩) 4 cap]).run Tryz.prog W = .ok (goInt 4) W5 ∧ W5.heap[b]? = some (.cells (splice C.toList j [.int .u8 (x0 : Nat), .int .u8 (x1 : Nat), .int .u8 (x2 : Nat), .int .u8 (x3 : Nat)]).toArray 170 (0, 0)) ∧ W5.ownsRow base 5 1 v n xs ∧ Below base w0 W5 :=
  ⟨_, copy_four hb hj h0 h1 h2 h3, block_setCells 170 _ j W b C hb (by simpa using hj), OW.setCells ho (OW.ne_block ho hb (by decide)) _, below_setCells hb0 _ _ hB⟩
theorem netX_of (p s0 s1 s2 s3 d0 d1 d2 d3 : Nat) (v : Value) : (splice (splice (netB p v).toList 1 [.int .u8 (s0 : Nat), .int .u8 (s1 : Nat), .int .u8 (s2 : Nat), .int .u8 (s3 : Nat)]) 17 [.int .u8 (d0 : Nat), .int .u8 (d1 : Nat), .int .u8 (d2 : Nat), .int .u8 (d3 : Nat)]).toArray = netX p s0 s1 s2 s3 d0 d1 d2 d3 v := by kernel_rfl
set_option maxRecDepth 100000 in
set_option maxHeartbeats 4000000 in
theorem inet_parse (g o n c : Nat) (B : Nat → Nat) (w : World) (h : FrAt w g o n c B) (hn0 : 28 ≤ n) (hn1 : n ≤ 65535) (h0 : B 0 = 69) (hall : B 2 * 256 + B 3 = n) (hs : wsum B 10 % 65535 = 0) (hs1 : 1 ≤ wsum B 10) (hf : B 6 = 0 ∧ B 7 = 0) :
    Calls Tryz.prog 53 #[.slice (some ⟨g, o, none⟩) n c] w fun e w' => ∃ A c', e = .returned (.tuple #[.agg (netX (B 9) (B 12) (B 13) (B 14) (B 15) (B 16) (B 17) (B 18) (B 19) (.slice A (n - 20) c')), .int .i64 0]) ∧ w'.ownsRow w.heap.size 5 1 (.slice A (n - 20) c') (n - 20) (bv (bytesN B 20 (n - 20))) ∧ Below w.heap.size w w' := by
  have HF := Lib.hid h
  have hcap := h.cap
  simp only [maxLen] at hcap
  have hand : bits BinOp.and IntKind.u8 69 15 = 5 := by decide
  have hand0 : bits BinOp.and IntKind.i64 0 8191 = 0 := by decide
  have hg := h.blk
  clear h
  go_enter Tryz.func53, Tryz.ntmps53
  go_upto_region 1 with ((with_reducible refine arm_alloc 2 170 NZ 35 nz_zero ?_); intro w1 HB HX HS)
  have hs1w := HB.out.size
  have HF1 := Lib.hid (HF.out.below hg HB.out (Nat.le_refl _))
  have HW : Hid (∀ w', Below w1.heap.size w1 w' → FrAt w' g o n c B) := Lib.hid fun w' p => HF1.out.below (by omega) p (Nat.le_refl _)
  have CT : Hid (∀ w', Below w1.heap.size w1 w' → Calls Tryz.prog 111 #[.slice (some ⟨g, o, none⟩) n c, .int .i64 2] w' fun e w'' => e = .returned (.int .i64 (n : Nat)) ∧ w'' = w'.drew) := Lib.hid fun w' p => by
    have q := HW.out w' p
    have := inet_two g o 2 n c (B 2) (B 3) w' (q.cell 2 (by omega)) (q.cell 3 (by omega)) (q.byte _) (q.byte _) (by omega) (by omega)
    rw [hall] at this
    exact this
  have hlt : (20 : Int) ≤ (n : Int) := by omega
  have hp0 : 0 < n := by omega
  have hp9 : (9 : Int) < (n : Int) := by omega
  have hc20 : ¬ c = 20 := by omega
  have hc12 : ¬ c = 12 := by omega
  have hc16 : ¬ c = 16 := by omega
  have hi16 : (16 : Int) ≤ (c : Int) := by omega
  have hi20 : (20 : Int) ≤ (c : Int) := by omega
  have HL0 : Hid (∀ w', Below w1.heap.size w1 w' → w'.cell? ⟨g, o, none⟩ = some (.int .u8 69)) := Lib.hid fun w' p => by
    have := (HW.out w' p).cell 0 (by omega)
    rw [h0] at this
    exact this
  go_wp2_with fail
  refine wp_region_held_drew (S := Below w1.heap.size w1) (by kernel_rfl) (Below.refl _ _).drew (fun hHeld => ?_)
  refine wpAnyH_take (i := 0) (oi := ⟨some 11, _, _, _, _, _⟩) (v := ?_) rfl (by kernel_rfl) (by kernel_rfl) (by kernel_rfl) (fun _ _ _ h => h) (Or.inl ⟨by rfl, ?_⟩) hHeld ?_
  rotate_left
  · intro w hSw
    go_simp
    try with_reducible rfl
  try simp only [Act.put, List.setIfInBounds_toArray, List.set_cons_zero, List.set_cons_succ]
  refine wpAnyH_take (i := 1) (oi := ⟨some 12, _, _, _, _, _⟩) (v := ?_) rfl (by kernel_rfl) (by kernel_rfl) (by kernel_rfl) (fun _ _ _ h => h) (Or.inl ⟨by rfl, ?_⟩) hHeld ?_
  rotate_left
  · intro w hSw
    go_simp
    try with_reducible rfl
  try simp only [Act.put, List.setIfInBounds_toArray, List.set_cons_zero, List.set_cons_succ]
  refine wpAnyH_take (i := 2) (oi := ⟨some 13, _, _, _, _, _⟩) (v := ?_) rfl (by kernel_rfl) (by kernel_rfl) (by kernel_rfl) (fun _ _ _ h => h) (Or.inl ⟨by rfl, ?_⟩) hHeld ?_
  rotate_left
  · intro w hSw
    obtain k0 := HL0.out w hSw
    go_simp
    try with_reducible rfl
  try simp only [Act.put, List.setIfInBounds_toArray, List.set_cons_zero, List.set_cons_succ]
  refine wpAnyH_take (i := 3) (oi := ⟨some 14, _, _, _, _, _⟩) (v := ?_) rfl (by kernel_rfl) (by kernel_rfl) (by kernel_rfl) (fun _ _ _ h => h) (Or.inl ⟨by rfl, ?_⟩) hHeld ?_
  rotate_left
  · intro w hSw
    go_simp
    try with_reducible rfl
  try simp only [Act.put, List.setIfInBounds_toArray, List.set_cons_zero, List.set_cons_succ]
  refine wpAnyH_take (i := 4) (oi := ⟨some 15, _, _, _, _, _⟩) (v := ?_) rfl (by kernel_rfl) (by kernel_rfl) (by kernel_rfl) (fun _ _ _ h => h) (Or.inl ⟨by rfl, ?_⟩) hHeld ?_
  rotate_left
  · intro w hSw
    go_simp
    try with_reducible rfl
  try simp only [Act.put, List.setIfInBounds_toArray, List.set_cons_zero, List.set_cons_succ]
  refine wpAnyH_take (i := 5) (oi := ⟨some 16, _, _, _, _, _⟩) (v := ?_) rfl (by kernel_rfl) (by kernel_rfl) (by kernel_rfl) (fun _ _ _ h => h) (Or.inl ⟨by rfl, ?_⟩) hHeld ?_
  rotate_left
  · intro w hSw
    go_simp
    try with_reducible rfl
  try simp only [Act.put, List.setIfInBounds_toArray, List.set_cons_zero, List.set_cons_succ]
  refine wpAnyH_take (i := 6) (oi := ⟨some 17, _, _, _, _, _⟩) (v := ?_) rfl (by kernel_rfl) (by kernel_rfl) (by kernel_rfl) (fun _ _ _ h => h) (Or.inl ⟨by rfl, ?_⟩) hHeld ?_
  rotate_left
  · intro w hSw
    go_simp
    try with_reducible rfl
  try simp only [Act.put, List.setIfInBounds_toArray, List.set_cons_zero, List.set_cons_succ]
  refine wpAnyH_ready (rs := [7]) (by kernel_rfl) (by simp) ?_
  refine AllReadyH.cons rfl (fun K hK => ?_) AllReadyH.nil
  go_simp
  go_wp2_with (go_at_call 111; go_must (refine (CT.out _ hHeld).mono ?_; rintro e w7 ⟨rfl, rfl⟩))
  refine hK.out _ _ (hHeld.drew) (fun hHeld => ?_)
  clear hK K
  refine wpAnyH_take (i := 8) (oi := ⟨some 4, _, _, _, _, _⟩) (v := ?_) rfl (by kernel_rfl) (by kernel_rfl) (by kernel_rfl) (fun _ _ _ h => h) (Or.inl ⟨by rfl, ?_⟩) hHeld ?_
  rotate_left
  · intro w hSw
    go_simp
    try with_reducible rfl
  try simp only [Act.put, List.setIfInBounds_toArray, List.set_cons_zero, List.set_cons_succ]
  refine wpAnyH_take (i := 9) (oi := ⟨some 5, _, _, _, _, _⟩) (v := ?_) rfl (by kernel_rfl) (by kernel_rfl) (by kernel_rfl) (fun _ _ _ h => h) (Or.inl ⟨by rfl, ?_⟩) hHeld ?_
  rotate_left
  · intro w hSw
    go_simp
    try with_reducible rfl
  try simp only [Act.put, List.setIfInBounds_toArray, List.set_cons_zero, List.set_cons_succ]
  refine wpAnyH_done (by kernel_rfl) ?_ _
  have k0 := HL0.out _ hHeld
  have CS := Lib.hid (inet_sum g o c B _ (fun j hj => (HW.out _ hHeld).cell j (by omega)) (HW.out _ hHeld).byte (by omega) (by simp only [maxLen]; omega) hs hs1)
  go_wp2_with fail
  refine CS.out.mono ?_
  rintro e w2 ⟨rfl, m, hw2⟩
  have B2 := Lib.hid (by rw [hw2]; exact below_drewN hHeld m : Below w1.heap.size w1 w2)
  clear CS k0 hw2 hHeld CT HL0 h0 hall hs hs1
  have hs2w := B2.out.size
  have HW2 : Hid (∀ w', Below w2.heap.size w2 w' → FrAt w' g o n c B) := Lib.hid fun w' p => HW.out w' (B2.out.trans (p.mono B2.out.size))
  have HL9 : Hid (∀ w', Below w2.heap.size w2 w' → w'.cell? ⟨g, o + 9, none⟩ = some (.int .u8 (B 9 : Nat))) := Lib.hid fun w' p => (HW2.out w' p).cell 9 (by omega)
  have CT : Hid (∀ w', Below w2.heap.size w2 w' → Calls Tryz.prog 111 #[.slice (some ⟨g, o, none⟩) n c, .int .i64 6] w' fun e w'' => e = .returned (.int .i64 0) ∧ w'' = w'.drew) := Lib.hid fun w' p => by
    have q := HW2.out w' p
    have := inet_two g o 6 n c (B 6) (B 7) w' (q.cell 6 (by omega)) (q.cell 7 (by omega)) (q.byte _) (q.byte _) (by omega) (by omega)
    rw [hf.1, hf.2] at this
    exact this
  have CL : Hid (∀ w', Below w2.heap.size w2 w' → Calls Tryz.prog 113 #[.slice (some ⟨g, o + 20, none⟩) (n - 20) (c - 20)] w' fun e w'' => ∃ A c', e = .returned (.slice A (n - 20) c') ∧ w''.ownsRow w'.heap.size 5 1 (.slice A (n - 20) c') (n - 20) (bv (bytesN B 20 (n - 20))) ∧ Below w'.heap.size w' w'') := Lib.hid fun w' p => by
    have q := HW2.out w' p
    refine (clone_bytes ⟨g, o + 20, none⟩ (n - 20) (c - 20) (bv (bytesN B 20 (n - 20))) w' (by rw [bv_len]; simp [bytesN]) (fun j u hu => ?_) bv_one (by omega) q.blk).mono ?_
    · rw [OW.addr_off]
      have hj := (List.getElem?_eq_some_iff.1 hu).1
      rw [bv_len] at hj
      simp only [bytesN, List.length_map, List.length_range] at hj
      simp only [bv, bytesN, List.map_map, List.getElem?_map, List.getElem?_range hj, Option.map_some, Option.some.injEq] at hu
      rw [← hu, Nat.add_assoc]
      exact q.cell (20 + j) (by omega)
    · rintro e w'' ⟨u, rfl, ho, hB⟩
      obtain ⟨A, c', rfl⟩ := OW.slice ho
      exact ⟨A, c', rfl, ho, hB⟩
  have hnc : (n : Int) ≤ (c : Int) := by omega
  have hd20 : decide ((n : Int) < 20) = false := decide_eq_false (by omega)
  go_wp2_with fail
  refine wp_region_held_drew (S := Below w2.heap.size w2) (by kernel_rfl) (Below.refl _ _).drew (fun hHeld => ?_)
  refine wpAnyH_take (i := 0) (oi := ⟨some 54, _, _, _, _, _⟩) (v := ?_) rfl (by kernel_rfl) (by kernel_rfl) (by kernel_rfl) (fun _ _ _ h => h) (Or.inl ⟨by rfl, ?_⟩) hHeld ?_
  rotate_left
  · intro w hSw
    go_simp
    try with_reducible rfl
  try simp only [Act.put, List.setIfInBounds_toArray, List.set_cons_zero, List.set_cons_succ]
  refine wpAnyH_take (i := 1) (oi := ⟨some 55, _, _, _, _, _⟩) (v := ?_) rfl (by kernel_rfl) (by kernel_rfl) (by kernel_rfl) (fun _ _ _ h => h) (Or.inl ⟨by rfl, ?_⟩) hHeld ?_
  rotate_left
  · intro w hSw
    go_simp
    try with_reducible rfl
  try simp only [Act.put, List.setIfInBounds_toArray, List.set_cons_zero, List.set_cons_succ]
  refine wpAnyH_take (i := 2) (oi := ⟨some 56, _, _, _, _, _⟩) (v := ?_) rfl (by kernel_rfl) (by kernel_rfl) (by kernel_rfl) (fun _ _ _ h => h) (Or.inl ⟨by rfl, ?_⟩) hHeld ?_
  rotate_left
  · intro w hSw
    obtain k0 := HL9.out w hSw
    go_simp
    try with_reducible rfl
  try simp only [Act.put, List.setIfInBounds_toArray, List.set_cons_zero, List.set_cons_succ]
  refine wpAnyH_take (i := 3) (oi := ⟨some 57, _, _, _, _, _⟩) (v := ?_) rfl (by kernel_rfl) (by kernel_rfl) (by kernel_rfl) (fun _ _ _ h => h) (Or.inl ⟨by rfl, ?_⟩) hHeld ?_
  rotate_left
  · intro w hSw
    go_simp
    try with_reducible rfl
  try simp only [Act.put, List.setIfInBounds_toArray, List.set_cons_zero, List.set_cons_succ]
  refine wpAnyH_take (i := 4) (oi := ⟨some 58, _, _, _, _, _⟩) (v := ?_) rfl (by kernel_rfl) (by kernel_rfl) (by kernel_rfl) (fun _ _ _ h => h) (Or.inl ⟨by rfl, ?_⟩) hHeld ?_
  rotate_left
  · intro w hSw
    go_simp
    try with_reducible rfl
  try simp only [Act.put, List.setIfInBounds_toArray, List.set_cons_zero, List.set_cons_succ]
  refine wpAnyH_take (i := 5) (oi := ⟨some 59, _, _, _, _, _⟩) (v := ?_) rfl (by kernel_rfl) (by kernel_rfl) (by kernel_rfl) (fun _ _ _ h => h) (Or.inl ⟨by rfl, ?_⟩) hHeld ?_
  rotate_left
  · intro w hSw
    go_simp
    try with_reducible rfl
  try simp only [Act.put, List.setIfInBounds_toArray, List.set_cons_zero, List.set_cons_succ]
  refine wpAnyH_take (i := 6) (oi := ⟨some 60, _, _, _, _, _⟩) (v := ?_) rfl (by kernel_rfl) (by kernel_rfl) (by kernel_rfl) (fun _ _ _ h => h) (Or.inl ⟨by rfl, ?_⟩) hHeld ?_
  rotate_left
  · intro w hSw
    go_simp
    try with_reducible rfl
  try simp only [Act.put, List.setIfInBounds_toArray, List.set_cons_zero, List.set_cons_succ]
  refine wpAnyH_take (i := 8) (oi := ⟨some 62, _, _, _, _, _⟩) (v := ?_) rfl (by kernel_rfl) (by kernel_rfl) (by kernel_rfl) (fun _ _ _ h => h) (Or.inl ⟨by rfl, ?_⟩) hHeld ?_
  rotate_left
  · intro w hSw
    go_simp
    try with_reducible rfl
  try simp only [Act.put, List.setIfInBounds_toArray, List.set_cons_zero, List.set_cons_succ]
  have fin : ∀ (b : Nat) (A7 : Option Addr) (c7 : Nat) (W : World), w2.heap.size ≤ b → Below w2.heap.size w2 W → W.heap[b]? = some (.cells NZ 170 (0, 0)) → W.ownsRow w2.heap.size 5 1 (.slice A7 (n - 20) c7) (n - 20) (bv (bytesN B 20 (n - 20))) →
      Below w2.heap.size w2 (W.setCells b 0 (netB (B 9) (.slice A7 (n - 20) c7)).toList) ∧ (W.setCells b 0 (netB (B 9) (.slice A7 (n - 20) c7)).toList).heap[b]? = some (.cells (netB (B 9) (.slice A7 (n - 20) c7)) 170 (0, 0)) ∧ (W.setCells b 0 (netB (B 9) (.slice A7 (n - 20) c7)).toList).ownsRow w2.heap.size 5 1 (.slice A7 (n - 20) c7) (n - 20) (bv (bytesN B 20 (n - 20))) := by
    intro b A7 c7 W hb hB hx ho
    exact ⟨below_setCells hb _ _ hB, box_whole hx rfl, OW.setCells ho (OW.ne_block ho hx (by decide)) _⟩
  have FIN := Lib.hid fin
  clear fin
  refine wpAnyH_ready (rs := [7, 13]) (by kernel_rfl) (by simp) ?_
  refine AllReadyH.cons rfl (fun K hK => ?_) (AllReadyH.cons rfl (fun K hK => ?_) AllReadyH.nil)
  · skip
    go_simp
    go_wp2_with (go_at_call 113; go_must (refine (CL.out _ hHeld).mono ?_; rintro e w7 ⟨A7, c7, rfl, ho, hB⟩))
    refine hK.out _ _ (hHeld.trans (hB.mono hHeld.size)) (fun hHeld => ?_)
    clear hK K
    have HO := Lib.hid (OW.mono ho (Nat.le_refl w2.heap.size))
    clear ho hB
    refine wpAnyH_ready (rs := [9, 13]) (by kernel_rfl) (by simp) ?_
    refine AllReadyH.cons rfl (fun K hK => ?_) (AllReadyH.cons rfl (fun K hK => ?_) AllReadyH.nil)
    · skip
      go_simp
      go_wp2_with (go_at_call 111; go_must (refine (CT.out _ hHeld).mono ?_; rintro e w9 ⟨rfl, rfl⟩))
      refine hK.out _ _ (hHeld.drew) (fun hHeld => ?_)
      clear hK K
      refine wpAnyH_take (i := 10) (oi := ⟨some 64, _, _, _, _, _⟩) (v := ?_) rfl (by kernel_rfl) (by kernel_rfl) (by kernel_rfl) (fun _ _ _ h => h) (Or.inl ⟨by rfl, ?_⟩) hHeld ?_
      rotate_left
      · intro w hSw
        go_simp
        try with_reducible rfl
      try simp only [Act.put, List.setIfInBounds_toArray, List.set_cons_zero, List.set_cons_succ]
      refine wpAnyH_take (i := 11) (oi := ⟨some 65, _, _, _, _, _⟩) (v := ?_) rfl (by kernel_rfl) (by kernel_rfl) (by kernel_rfl) (fun _ _ _ h => h) (Or.inl ⟨by rfl, ?_⟩) hHeld ?_
      rotate_left
      · intro w hSw
        go_simp
        try with_reducible rfl
      try simp only [Act.put, List.setIfInBounds_toArray, List.set_cons_zero, List.set_cons_succ]
      refine wpAnyH_take (i := 12) (oi := ⟨some 66, _, _, _, _, _⟩) (v := .agg (netB (B 9) (.slice A7 (n - 20) c7))) rfl (by kernel_rfl) (by kernel_rfl) (by kernel_rfl) (fun _ _ _ h => h) (Or.inl ⟨by rfl, fun w hSw => exec_build (vals := #[(0, .int .u8 (B 9 : Nat)), (3, .slice A7 (n - 20) c7), (4, .bool true)]) (by simp [Act.eval]) (build_net _ _ _ _ w)⟩) hHeld ?_
      try simp only [Act.put, List.setIfInBounds_toArray, List.set_cons_zero, List.set_cons_succ]
      refine wpAnyH_ready (rs := [13]) (by kernel_rfl) (by simp) ?_
      refine AllReadyH.cons rfl (fun K hK => ?_) AllReadyH.nil
      have hS13 := hHeld.size; refine step_alloc 6 170 NZ 35 nz_zero ?_; intro W13 HB13 HX13 HS13; have HOW := Lib.hid (OW.below (w := w7.drew) HO.out HB13.out)
      refine hK.out _ _ (hHeld.trans (HB13.out.mono hHeld.size)) (fun hHeld => ?_)
      clear hK K
      refine wpAnyH_ready (rs := [14]) (by kernel_rfl) (by simp) ?_
      refine AllReadyH.cons rfl (fun K hK => ?_) AllReadyH.nil
      obtain ⟨q1, q2, q3⟩ := FIN.out _ A7 c7 _ hS13 hHeld HX13.out HOW.out; have Q2 := Lib.hid q2; have Q3 := Lib.hid q3; clear q2 q3; refine step_store 6 66 170 _ _ _ (box_store (x := netB (B 9) (.slice A7 (n - 20) c7)) HX13.out nz_size (netB_all _ _ _ _) rfl) rfl rfl ?_
      refine hK.out _ _ (q1) (fun hHeld => ?_)
      clear hK K
      refine wpAnyH_done (by kernel_rfl) ?_ _
      try simp only [Act.put, List.setIfInBounds_toArray, List.set_cons_zero, List.set_cons_succ]
      generalize World.setCells _ _ _ (netB (B 9) _).toList = W0 at *
      have q0 := HW2.out W0.drew hHeld.drew
      obtain ⟨W5, h5, h6, h7, h8⟩ := net_copy (W := W0.drew) (j := 1) (cap := c - 12) (ty := 3) hHeld.drew hS13 Q2.out Q3.out (by rw [netB_size]; decide) (q0.cell 12 (by omega)) (q0.cell 13 (by omega)) (q0.cell 14 (by omega)) (q0.cell 15 (by omega))
      have r0 := HW2.out W5.drew h8.drew
      obtain ⟨W6, h9, h10, h11, h12⟩ := net_copy (W := W5.drew) (j := 17) (cap := c - 16) (ty := 3) h8.drew hS13 h6 h7 (by simp [splice, netB_size]) (r0.cell 16 (by omega)) (r0.cell 17 (by omega)) (r0.cell 18 (by omega)) (r0.cell 19 (by omega))
      rw [List.toList_toArray, netX_of] at h10
      have HC5 := Lib.hid h5
      have HC6 := Lib.hid h9
      have HX6 := Lib.hid h10
      have HO6 := Lib.hid h11
      have HB6 := Lib.hid h12
      clear h5 h6 h7 h8 h9 h10 h11 h12 q0 r0
      go_wp2_with fail
      go_region_law (refine step_copy 68 70 _ _ _ _ _ _ HC5.out rfl rfl ?_)
      go_wp2_with fail
      go_region_law (refine step_copy 73 75 _ _ _ _ _ _ HC6.out rfl rfl ?_)
      have hld := box_load (t := 170) HX6.out _ Tryz.underlying170 rfl nz_size
      have HXR := keep_block (HB6.out.mono (Nat.le_refl _)) (keep_block B2.out HX.out)
      have hst := box_store (t := 170) (x := netX (B 9) (B 12) (B 13) (B 14) (B 15) (B 16) (B 17) (B 18) (B 19) (.slice A7 (n - 20) c7)) HXR nz_size (netX_all ..) rfl
      have hbx := box_whole (cs := netX (B 9) (B 12) (B 13) (B 14) (B 15) (B 16) (B 17) (B 18) (B 19) (.slice A7 (n - 20) c7)) HXR rfl
      have hfo := OW.mono (OW.setCells HO6.out (OW.ne_block HO6.out HXR (by decide)) (j := 0) (netX (B 9) (B 12) (B 13) (B 14) (B 15) (B 16) (B 17) (B 18) (B 19) (.slice A7 (n - 20) c7)).toList) (Nat.le_trans hs1w hs2w)
      have hfb := below_setCells (b := w.heap.size) (Nat.le_refl _) (netX (B 9) (B 12) (B 13) (B 14) (B 15) (B 16) (B 17) (B 18) (B 19) (.slice A7 (n - 20) c7)).toList 0 (HB.out.trans ((B2.out.trans (HB6.out.mono hs2w)).mono hs1w))
      have HBX := Lib.hid hbx
      have HFO := Lib.hid hfo
      have HFB := Lib.hid hfb
      clear hbx hfo hfb HXR
      generalize World.setCells _ _ _ (netX (B 9) (B 12) (B 13) (B 14) (B 15) (B 16) (B 17) (B 18) (B 19) (.slice A7 (n - 20) c7)).toList = W9 at *
      have hns : (Tryz.prog.info? 170).map (·.size) = some (netX (B 9) (B 12) (B 13) (B 14) (B 15) (B 16) (B 17) (B 18) (B 19) (.slice A7 (n - 20) c7)).size := nz_size
      have HNS := Lib.hid hns
      clear hns
      generalize hnx : netX (B 9) (B 12) (B 13) (B 14) (B 15) (B 16) (B 17) (B 18) (B 19) (.slice A7 (n - 20) c7) = nx at *
      have HNX := Lib.hid hnx
      clear hnx
      go_wp2_with (first | ((with_reducible refine arm_load 77 6 170 _ _ hld ?_ ?_); rfl) | ((with_reducible refine arm_store 2 77 170 _ _ _ hst ?_ ?_ ?_); rfl; rfl))
      refine bodyPost_ret (results_row_tmp rfl _ _ _ _ _ _ _ rfl HBX.out Tryz.underlying170 rfl HNS.out) rfl ?_
      exact ⟨A7, c7, by rw [← HNX.out]; rfl, HFO.out, HFB.out⟩
      go_show
    · skip
      have hS13 := hHeld.size; refine step_alloc 6 170 NZ 35 nz_zero ?_; intro W13 HB13 HX13 HS13; have HOW := Lib.hid (OW.below (w := w7) HO.out HB13.out)
      refine hK.out _ _ (hHeld.trans (HB13.out.mono hHeld.size)) (fun hHeld => ?_)
      clear hK K
      refine wpAnyH_ready (rs := [9]) (by kernel_rfl) (by simp) ?_
      refine AllReadyH.cons rfl (fun K hK => ?_) AllReadyH.nil
      go_simp
      go_wp2_with (go_at_call 111; go_must (refine (CT.out _ hHeld).mono ?_; rintro e w9 ⟨rfl, rfl⟩))
      refine hK.out _ _ (hHeld.drew) (fun hHeld => ?_)
      clear hK K
      refine wpAnyH_take (i := 10) (oi := ⟨some 64, _, _, _, _, _⟩) (v := ?_) rfl (by kernel_rfl) (by kernel_rfl) (by kernel_rfl) (fun _ _ _ h => h) (Or.inl ⟨by rfl, ?_⟩) hHeld ?_
      rotate_left
      · intro w hSw
        go_simp
        try with_reducible rfl
      try simp only [Act.put, List.setIfInBounds_toArray, List.set_cons_zero, List.set_cons_succ]
      refine wpAnyH_take (i := 11) (oi := ⟨some 65, _, _, _, _, _⟩) (v := ?_) rfl (by kernel_rfl) (by kernel_rfl) (by kernel_rfl) (fun _ _ _ h => h) (Or.inl ⟨by rfl, ?_⟩) hHeld ?_
      rotate_left
      · intro w hSw
        go_simp
        try with_reducible rfl
      try simp only [Act.put, List.setIfInBounds_toArray, List.set_cons_zero, List.set_cons_succ]
      refine wpAnyH_take (i := 12) (oi := ⟨some 66, _, _, _, _, _⟩) (v := .agg (netB (B 9) (.slice A7 (n - 20) c7))) rfl (by kernel_rfl) (by kernel_rfl) (by kernel_rfl) (fun _ _ _ h => h) (Or.inl ⟨by rfl, fun w hSw => exec_build (vals := #[(0, .int .u8 (B 9 : Nat)), (3, .slice A7 (n - 20) c7), (4, .bool true)]) (by simp [Act.eval]) (build_net _ _ _ _ w)⟩) hHeld ?_
      try simp only [Act.put, List.setIfInBounds_toArray, List.set_cons_zero, List.set_cons_succ]
      refine wpAnyH_ready (rs := [14]) (by kernel_rfl) (by simp) ?_
      refine AllReadyH.cons rfl (fun K hK => ?_) AllReadyH.nil
      obtain ⟨q1, q2, q3⟩ := FIN.out _ A7 c7 _ hS13 hHeld HX13.out HOW.out; have Q2 := Lib.hid q2; have Q3 := Lib.hid q3; clear q2 q3; refine step_store 6 66 170 _ _ _ (box_store (x := netB (B 9) (.slice A7 (n - 20) c7)) HX13.out nz_size (netB_all _ _ _ _) rfl) rfl rfl ?_
      refine hK.out _ _ (q1) (fun hHeld => ?_)
      clear hK K
      refine wpAnyH_done (by kernel_rfl) ?_ _
      try simp only [Act.put]
      generalize World.setCells _ _ _ (netB (B 9) _).toList = W0 at *
      have q0 := HW2.out W0.drew hHeld.drew
      obtain ⟨W5, h5, h6, h7, h8⟩ := net_copy (W := W0.drew) (j := 1) (cap := c - 12) (ty := 3) hHeld.drew hS13 Q2.out Q3.out (by rw [netB_size]; decide) (q0.cell 12 (by omega)) (q0.cell 13 (by omega)) (q0.cell 14 (by omega)) (q0.cell 15 (by omega))
      have r0 := HW2.out W5.drew h8.drew
      obtain ⟨W6, h9, h10, h11, h12⟩ := net_copy (W := W5.drew) (j := 17) (cap := c - 16) (ty := 3) h8.drew hS13 h6 h7 (by simp [splice, netB_size]) (r0.cell 16 (by omega)) (r0.cell 17 (by omega)) (r0.cell 18 (by omega)) (r0.cell 19 (by omega))
      rw [List.toList_toArray, netX_of] at h10
      have HC5 := Lib.hid h5
      have HC6 := Lib.hid h9
      have HX6 := Lib.hid h10
      have HO6 := Lib.hid h11
      have HB6 := Lib.hid h12
      clear h5 h6 h7 h8 h9 h10 h11 h12 q0 r0
      go_wp2_with fail
      go_region_law (refine step_copy 68 70 _ _ _ _ _ _ HC5.out rfl rfl ?_)
      go_wp2_with fail
      go_region_law (refine step_copy 73 75 _ _ _ _ _ _ HC6.out rfl rfl ?_)
      have hld := box_load (t := 170) HX6.out _ Tryz.underlying170 rfl nz_size
      have HXR := keep_block (HB6.out.mono (Nat.le_refl _)) (keep_block B2.out HX.out)
      have hst := box_store (t := 170) (x := netX (B 9) (B 12) (B 13) (B 14) (B 15) (B 16) (B 17) (B 18) (B 19) (.slice A7 (n - 20) c7)) HXR nz_size (netX_all ..) rfl
      have hbx := box_whole (cs := netX (B 9) (B 12) (B 13) (B 14) (B 15) (B 16) (B 17) (B 18) (B 19) (.slice A7 (n - 20) c7)) HXR rfl
      have hfo := OW.mono (OW.setCells HO6.out (OW.ne_block HO6.out HXR (by decide)) (j := 0) (netX (B 9) (B 12) (B 13) (B 14) (B 15) (B 16) (B 17) (B 18) (B 19) (.slice A7 (n - 20) c7)).toList) (Nat.le_trans hs1w hs2w)
      have hfb := below_setCells (b := w.heap.size) (Nat.le_refl _) (netX (B 9) (B 12) (B 13) (B 14) (B 15) (B 16) (B 17) (B 18) (B 19) (.slice A7 (n - 20) c7)).toList 0 (HB.out.trans ((B2.out.trans (HB6.out.mono hs2w)).mono hs1w))
      have HBX := Lib.hid hbx
      have HFO := Lib.hid hfo
      have HFB := Lib.hid hfb
      clear hbx hfo hfb HXR
      generalize World.setCells _ _ _ (netX (B 9) (B 12) (B 13) (B 14) (B 15) (B 16) (B 17) (B 18) (B 19) (.slice A7 (n - 20) c7)).toList = W9 at *
      have hns : (Tryz.prog.info? 170).map (·.size) = some (netX (B 9) (B 12) (B 13) (B 14) (B 15) (B 16) (B 17) (B 18) (B 19) (.slice A7 (n - 20) c7)).size := nz_size
      have HNS := Lib.hid hns
      clear hns
      generalize hnx : netX (B 9) (B 12) (B 13) (B 14) (B 15) (B 16) (B 17) (B 18) (B 19) (.slice A7 (n - 20) c7) = nx at *
      have HNX := Lib.hid hnx
      clear hnx
      go_wp2_with (first | ((with_reducible refine arm_load 77 6 170 _ _ hld ?_ ?_); rfl) | ((with_reducible refine arm_store 2 77 170 _ _ _ hst ?_ ?_ ?_); rfl; rfl))
      refine bodyPost_ret (results_row_tmp rfl _ _ _ _ _ _ _ rfl HBX.out Tryz.underlying170 rfl HNS.out) rfl ?_
      exact ⟨A7, c7, by rw [← HNX.out]; rfl, HFO.out, HFB.out⟩
      go_show
  · skip
    have hS13 := hHeld.size; refine step_alloc 6 170 NZ 35 nz_zero ?_; intro W13 HB13 HX13 HS13
    refine hK.out _ _ (hHeld.trans (HB13.out.mono hHeld.size)) (fun hHeld => ?_)
    clear hK K
    have hs13 := hHeld.size
    refine wpAnyH_ready (rs := [7]) (by kernel_rfl) (by simp) ?_
    refine AllReadyH.cons rfl (fun K hK => ?_) AllReadyH.nil
    go_simp
    go_wp2_with (go_at_call 113; go_must (refine (CL.out _ hHeld).mono ?_; rintro e w7 ⟨A7, c7, rfl, ho, hB⟩))
    refine hK.out _ _ (hHeld.trans (hB.mono hHeld.size)) (fun hHeld => ?_)
    clear hK K
    have HO := Lib.hid (OW.mono ho hs13)
    have HX7 := Lib.hid (keep_block hB HX13.out)
    clear ho hB
    refine wpAnyH_ready (rs := [9]) (by kernel_rfl) (by simp) ?_
    refine AllReadyH.cons rfl (fun K hK => ?_) AllReadyH.nil
    go_simp
    go_wp2_with (go_at_call 111; go_must (refine (CT.out _ hHeld).mono ?_; rintro e w9 ⟨rfl, rfl⟩))
    refine hK.out _ _ (hHeld.drew) (fun hHeld => ?_)
    clear hK K
    refine wpAnyH_take (i := 10) (oi := ⟨some 64, _, _, _, _, _⟩) (v := ?_) rfl (by kernel_rfl) (by kernel_rfl) (by kernel_rfl) (fun _ _ _ h => h) (Or.inl ⟨by rfl, ?_⟩) hHeld ?_
    rotate_left
    · intro w hSw
      go_simp
      try with_reducible rfl
    try simp only [Act.put, List.setIfInBounds_toArray, List.set_cons_zero, List.set_cons_succ]
    refine wpAnyH_take (i := 11) (oi := ⟨some 65, _, _, _, _, _⟩) (v := ?_) rfl (by kernel_rfl) (by kernel_rfl) (by kernel_rfl) (fun _ _ _ h => h) (Or.inl ⟨by rfl, ?_⟩) hHeld ?_
    rotate_left
    · intro w hSw
      go_simp
      try with_reducible rfl
    try simp only [Act.put, List.setIfInBounds_toArray, List.set_cons_zero, List.set_cons_succ]
    refine wpAnyH_take (i := 12) (oi := ⟨some 66, _, _, _, _, _⟩) (v := .agg (netB (B 9) (.slice A7 (n - 20) c7))) rfl (by kernel_rfl) (by kernel_rfl) (by kernel_rfl) (fun _ _ _ h => h) (Or.inl ⟨by rfl, fun w hSw => exec_build (vals := #[(0, .int .u8 (B 9 : Nat)), (3, .slice A7 (n - 20) c7), (4, .bool true)]) (by simp [Act.eval]) (build_net _ _ _ _ w)⟩) hHeld ?_
    try simp only [Act.put, List.setIfInBounds_toArray, List.set_cons_zero, List.set_cons_succ]
    refine wpAnyH_ready (rs := [14]) (by kernel_rfl) (by simp) ?_
    refine AllReadyH.cons rfl (fun K hK => ?_) AllReadyH.nil
    obtain ⟨q1, q2, q3⟩ := FIN.out _ A7 c7 _ hS13 hHeld HX7.out HO.out; have Q2 := Lib.hid q2; have Q3 := Lib.hid q3; clear q2 q3; refine step_store 6 66 170 _ _ _ (box_store (x := netB (B 9) (.slice A7 (n - 20) c7)) HX7.out nz_size (netB_all _ _ _ _) rfl) rfl rfl ?_
    refine hK.out _ _ (q1) (fun hHeld => ?_)
    clear hK K
    refine wpAnyH_done (by kernel_rfl) ?_ _
    try simp only [Act.put]
    generalize World.setCells _ _ _ (netB (B 9) _).toList = W0 at *
    have q0 := HW2.out W0.drew hHeld.drew
    obtain ⟨W5, h5, h6, h7, h8⟩ := net_copy (W := W0.drew) (j := 1) (cap := c - 12) (ty := 3) hHeld.drew hS13 Q2.out Q3.out (by rw [netB_size]; decide) (q0.cell 12 (by omega)) (q0.cell 13 (by omega)) (q0.cell 14 (by omega)) (q0.cell 15 (by omega))
    have r0 := HW2.out W5.drew h8.drew
    obtain ⟨W6, h9, h10, h11, h12⟩ := net_copy (W := W5.drew) (j := 17) (cap := c - 16) (ty := 3) h8.drew hS13 h6 h7 (by simp [splice, netB_size]) (r0.cell 16 (by omega)) (r0.cell 17 (by omega)) (r0.cell 18 (by omega)) (r0.cell 19 (by omega))
    rw [List.toList_toArray, netX_of] at h10
    have HC5 := Lib.hid h5
    have HC6 := Lib.hid h9
    have HX6 := Lib.hid h10
    have HO6 := Lib.hid h11
    have HB6 := Lib.hid h12
    clear h5 h6 h7 h8 h9 h10 h11 h12 q0 r0
    go_wp2_with fail
    go_region_law (refine step_copy 68 70 _ _ _ _ _ _ HC5.out rfl rfl ?_)
    go_wp2_with fail
    go_region_law (refine step_copy 73 75 _ _ _ _ _ _ HC6.out rfl rfl ?_)
    have hld := box_load (t := 170) HX6.out _ Tryz.underlying170 rfl nz_size
    have HXR := keep_block (HB6.out.mono (Nat.le_refl _)) (keep_block B2.out HX.out)
    have hst := box_store (t := 170) (x := netX (B 9) (B 12) (B 13) (B 14) (B 15) (B 16) (B 17) (B 18) (B 19) (.slice A7 (n - 20) c7)) HXR nz_size (netX_all ..) rfl
    have hbx := box_whole (cs := netX (B 9) (B 12) (B 13) (B 14) (B 15) (B 16) (B 17) (B 18) (B 19) (.slice A7 (n - 20) c7)) HXR rfl
    have hfo := OW.mono (OW.setCells HO6.out (OW.ne_block HO6.out HXR (by decide)) (j := 0) (netX (B 9) (B 12) (B 13) (B 14) (B 15) (B 16) (B 17) (B 18) (B 19) (.slice A7 (n - 20) c7)).toList) (Nat.le_trans hs1w hs2w)
    have hfb := below_setCells (b := w.heap.size) (Nat.le_refl _) (netX (B 9) (B 12) (B 13) (B 14) (B 15) (B 16) (B 17) (B 18) (B 19) (.slice A7 (n - 20) c7)).toList 0 (HB.out.trans ((B2.out.trans (HB6.out.mono hs2w)).mono hs1w))
    have HBX := Lib.hid hbx
    have HFO := Lib.hid hfo
    have HFB := Lib.hid hfb
    clear hbx hfo hfb HXR
    generalize World.setCells _ _ _ (netX (B 9) (B 12) (B 13) (B 14) (B 15) (B 16) (B 17) (B 18) (B 19) (.slice A7 (n - 20) c7)).toList = W9 at *
    have hns : (Tryz.prog.info? 170).map (·.size) = some (netX (B 9) (B 12) (B 13) (B 14) (B 15) (B 16) (B 17) (B 18) (B 19) (.slice A7 (n - 20) c7)).size := nz_size
    have HNS := Lib.hid hns
    clear hns
    generalize hnx : netX (B 9) (B 12) (B 13) (B 14) (B 15) (B 16) (B 17) (B 18) (B 19) (.slice A7 (n - 20) c7) = nx at *
    have HNX := Lib.hid hnx
    clear hnx
    go_wp2_with (first | ((with_reducible refine arm_load 77 6 170 _ _ hld ?_ ?_); rfl) | ((with_reducible refine arm_store 2 77 170 _ _ _ hst ?_ ?_ ?_); rfl; rfl))
    refine bodyPost_ret (results_row_tmp rfl _ _ _ _ _ _ _ rfl HBX.out Tryz.underlying170 rfl HNS.out) rfl ?_
    exact ⟨A7, c7, by rw [← HNX.out]; rfl, HFO.out, HFB.out⟩
    go_show
end Go.Proofs.YtpanmfdbdgecaaaGreat.C

namespace Go.Proofs.YtpanmfdbdgecaaaGreat.C
open Go.RowKit
set_option linter.unusedVariables false
set_option maxRecDepth 100000 in
theorem ports_parse (x : Array Value) (g o n c : Nat) (s0 s1 d0 d1 : Nat) (R : List Nat) (w : World) (hx0 : x[0]? = some (.int .u8 17)) (hx3 : x[33]? = some (.slice (some ⟨g, o, none⟩) n c)) (hx4 : x[34]? = some (.bool true)) (hl : (s0 :: s1 :: d0 :: d1 :: R).length = n) (hc : ∀ (j : Nat) (u : Value), (bv (s0 :: s1 :: d0 :: d1 :: R))[j]? = some u → w.cell? ⟨g, o + j, none⟩ = some u) (hn : n ≤ 65536) (hg : g < w.heap.size) (h0 : s0 < 256) (h1 : s1 < 256) (h2 : d0 < 256) (h3 : d1 < 256) :
    Calls Tryz.prog 55 #[.bool false, .agg x] w fun e w' => e = .returned (.tuple #[.int .u16 (s0 * 256 + s1 : Nat), .int .u16 (d0 * 256 + d1 : Nat), .int .i64 0]) ∧ Below w.heap.size w w' := by
  have HC0 : Hid (∀ w1 : World, w1.heap[w.heap.size]? = some (.cells x 170 (0, 0)) → w1.cell? ⟨w.heap.size, 0, none⟩ = some (.int .u8 17) ∧ w1.cell? ⟨w.heap.size, 33, none⟩ = some (.slice (some ⟨g, o, none⟩) n c) ∧ w1.cell? ⟨w.heap.size, 34, none⟩ = some (.bool true)) := Lib.hid fun w1 hb => by
    rw [cell_of_row _ _ _ _ _ _ hb, cell_of_row _ _ _ _ _ _ hb, cell_of_row _ _ _ _ _ _ hb]
    exact ⟨hx0, hx3, hx4⟩
  have HCC := Lib.hid hc
  have HL := Lib.hid hl
  clear hx0 hx3 hx4 hc hl
  go_enter Tryz.func55, Tryz.ntmps55
  go_upto_region 1 with ((with_reducible refine arm_box 3 1 170 x ?_ ?_); rfl; intro w1 HB HX HS)
  obtain ⟨k0, k33, k34⟩ := HC0.out _ HX.out
  have hlt := HB.out.size
  have C := Lib.hid (cursor_new ⟨g, o, none⟩ n c (bv (s0 :: s1 :: d0 :: d1 :: R)) w1 (by rw [bv_len]; exact HL.out) (fun j u hu => by
    rw [OW.addr_off, World.cell?_of_block (HB.out.block g hg)]
    exact HCC.out j u hu) bv_one hn (show g < w1.heap.size by omega))
  go_wp2_with fail
  refine C.out.mono ?_
  rintro e w2 ⟨cb, A2, c2, rfl, hcb, hc2, hb2⟩
  have B2 := Lib.hid (HB.out.trans (hb2.mono hlt))
  have hs2 := hb2.size
  have hl4 := HL.out
  simp only [List.length_cons] at hl4
  have CU := Lib.hid (cursor_u16_yes s0 s1 (d0 :: d1 :: R) h0 h1 hc2 hn hcb)
  clear hc2 C hb2
  generalize w1.heap.size = base at *
  go_wp2_with fail
  refine CU.out.mono ?_
  rintro e w3 ⟨rfl, ⟨A3, c3, hc3⟩, ht3⟩
  have B3 := Lib.hid (two_below B2.out ht3 (by omega) (by omega))
  have hs3 := ht3.size
  have CV := Lib.hid (cursor_u16_yes d0 d1 R h2 h3 hc3 (by omega) hcb)
  clear hc3 CU ht3
  go_wp2_with fail
  refine CV.out.mono ?_
  rintro e w4 ⟨rfl, ⟨A4, c4, hc4⟩, ht4⟩
  have B4 := Lib.hid (two_below B3.out ht4 (by omega) (by omega))
  have CB := Lib.hid (cursor_bad hc4)
  clear hc4 CV ht4
  go_wp2_with fail
  refine CB.out.mono ?_
  rintro e w5 ⟨rfl, rfl⟩
  go_wp2
  go_ret3
  exact ⟨rfl, B4.out⟩
/-- Bytes are copied from row to row. -/
theorem copy_bytes {W : World} {b j dn dc sn sc : Nat} {a : Addr} {C : Array Value} {T ty : TypeId} {L : List Nat} (hb : W.heap[b]? = some (.cells C T (0, 0))) (hj : j + L.length ≤ C.size) (hn : L.length = Nat.min sn dn) (hs : ∀ (k : Nat) (v : Value), (bv L)[k]? = some v → W.cell? (a.add k) = some v) :
    (Builtin.copy_ #[37, 37] ty #[.slice (some ⟨b, j, none⟩) dn dc, .slice (some a) sn sc]).run Tryz.prog W = .ok (goInt L.length) (W.setCells b j (bv L)) := by
  have := run_copy_cells (P := Tryz.prog) W 37 37 ty 5 b j dn dc a sn sc (bv L) Tryz.underlying37 bytes_size (by rw [bv_len]; exact hn) hs
    (fun k hk => (there_of_block (o := j) (n := L.length) hb hj k (by rwa [bv_len] at hk)).1) (fun k hk => (there_of_block (o := j) (n := L.length) hb hj k (by rwa [bv_len] at hk)).2) bv_one
  rwa [bv_len] at this
def PfZ : Array Value := #[.bool false, .int .u8 0, .int .u8 0, .int .u8 0, .int .u8 0, .int .u8 0, .int .u8 0, .int .u8 0]
theorem pfz_zero : (Tryz.prog.info? 65).map (fun i => (i.zero, i.size)) = some (some (.agg PfZ), 8) := by kernel_rfl
theorem pfz_one : PfZ.all (·.oneCell') = true := by kernel_rfl
theorem pf_size : (Tryz.prog.info? 65).map (·.size) = some 8 := by kernel_rfl
theorem build_pf (w : World) : (Instr.build 65 #[(0, .bool false)]).run Tryz.prog w = .ok (.agg PfZ) w := run_build w 65 _ _ (by kernel_rfl)
/-- The prefix of IPv4's three bytes. -/
def pfx (s0 s1 s2 : Nat) : Array Value := #[.bool false, .int .u8 (s0 : Nat), .int .u8 (s1 : Nat), .int .u8 (s2 : Nat), .int .u8 0, .int .u8 0, .int .u8 0, .int .u8 0]
set_option maxRecDepth 100000 in
theorem frame_prefix (x : Array Value) (s0 s1 s2 : Nat) (w : World) (hx0 : x[0]? = some (.bool false)) (hx2 : x[2]? = some (.int .u8 (s0 : Nat))) (hx3 : x[3]? = some (.int .u8 (s1 : Nat))) (hx4 : x[4]? = some (.int .u8 (s2 : Nat))) :
    Calls Tryz.prog 56 #[.agg x] w fun e w' => e = .returned (.agg (pfx s0 s1 s2)) ∧ Below w.heap.size w w' := by
  have HX0 := Lib.hid hx0
  have HX2 := Lib.hid hx2
  have HX3 := Lib.hid hx3
  have HX4 := Lib.hid hx4
  clear hx0 hx2 hx3 hx4
  have hz := pfz_zero
  have hz1 := pfz_one
  have hz2 : (Tryz.prog.info? 65).map (·.size) = some PfZ.size := pf_size
  have hz3 : PfZ.size = 8 := rfl
  have hbl := build_pf
  have hzq : splice PfZ.toList 1 (bv [s0, s1, s2]) = (pfx s0 s1 s2).toList := by rfl
  generalize PfZ = Z at *
  have HZ := Lib.hid hz
  have HZ1 := Lib.hid hz1
  have HZ2 := Lib.hid hz2
  have HZ3 := Lib.hid hz3
  have HZQ := Lib.hid hzq
  have HBL := Lib.hid hbl
  clear hz hz1 hz2 hz3 hzq hbl
  go_enter Tryz.func56, Tryz.ntmps56
  go_upto_region 1 with (first | ((with_reducible refine arm_box 1 0 58 x ?_ ?_); rfl; intro w1 HB1 HY1 HS1) | ((with_reducible refine arm_alloc 2 65 Z 8 HZ.out ?_); intro w2 HB2 HY2 HS2))
  have hbx := keep_block HB2.out HY1.out
  have k0 := cells_of_row hbx 0 _ HX0.out
  have hB := HB1.out.trans (HB2.out.mono HB1.out.size)
  have hbl := HBL.out w2
  go_upto_region 2 with (first | ((with_reducible refine arm_build 7 65 _ #[(0, .bool false)] (.agg Z) hbl ?_ ?_); simp [Act.eval]) | ((with_reducible refine arm_alloc 3 65 Z 8 HZ.out ?_); intro w3 HB3 HY3 HS3; have hst := box_store (t := 65) (x := Z) HY3.out HZ2.out HZ1.out rfl) | ((with_reducible refine arm_store 3 7 65 _ _ _ hst ?_ ?_ ?_); rfl; rfl))
  have hb3 : w3.heap[w1.heap.size]? = some (.cells Z 65 (0, 0)) := keep_block HB3.out HY2.out
  have hx3' : w3.heap[w.heap.size]? = some (.cells x 58 (0, 0)) := keep_block HB3.out hbx
  have hs1 := HS1.out
  have hs2 := HS2.out
  have r1 : (w3.setCells w2.heap.size 0 Z.toList).heap[w1.heap.size]? = some (.cells Z 65 (0, 0)) := (heap_setCells_other _ _ _ _ _ (by omega)).trans hb3
  have r2 : (w3.setCells w2.heap.size 0 Z.toList).heap[w.heap.size]? = some (.cells x 58 (0, 0)) := (heap_setCells_other _ _ _ _ _ (by omega)).trans hx3'
  have r3 := box_whole (cs := Z) HY3.out rfl
  have r4 : Below w.heap.size w (w3.setCells w2.heap.size 0 Z.toList) := below_setCells (by omega) _ _ (hB.trans (HB3.out.mono hB.size))
  have hne : w1.heap.size ≠ w2.heap.size := by omega
  have hle1 : w.heap.size ≤ w1.heap.size := by omega
  have hle2 : w.heap.size ≤ w2.heap.size := by omega
  clear hbx k0 hB hbl hst hb3 hx3' HY1 HY2 HY3 HB1 HB2 HB3 HS1 HS2 HS3 hs1 hs2
  generalize w3.setCells w2.heap.size 0 Z.toList = w4 at *
  generalize w2.heap.size = b3 at *
  generalize w1.heap.size = br at *
  have k0 := cells_of_row r2 0 _ HX0.out
  obtain ⟨W5, hW5⟩ : ∃ W, W = w4.drew.setCells b3 1 (bv [s0, s1, s2]) := ⟨_, rfl⟩
  have CP : (Builtin.copy_ #[37, 37] 3 #[.slice (some ⟨b3, 1, none⟩) 3 7, .slice (some ⟨w.heap.size, 2, none⟩) 3 16]).run Tryz.prog w4.drew = .ok (goInt 3) W5 := by
    rw [hW5]
    exact copy_bytes (W := w4.drew) (L := [s0, s1, s2]) r3 (by rw [HZ3.out]; simp) rfl (fun k v hv => by
      rw [OW.addr_off]
      match k, hv with
      | 0, hv => rw [← Option.some.inj hv]; exact cells_of_row (w := w4.drew) r2 2 _ HX2.out
      | 1, hv => rw [← Option.some.inj hv]; exact cells_of_row (w := w4.drew) r2 3 _ HX3.out
      | 2, hv => rw [← Option.some.inj hv]; exact cells_of_row (w := w4.drew) r2 4 _ HX4.out
      | k + 3, hv => simp [bv] at hv)
  have t3 : W5.heap[b3]? = some (.cells (pfx s0 s1 s2) 65 (0, 0)) := by
    rw [hW5, block_setCells 65 _ 1 w4.drew b3 Z r3 (by rw [bv_len, HZ3.out]; simp), HZQ.out, Array.toArray_toList]
  have t1 : W5.heap[br]? = some (.cells Z 65 (0, 0)) := by
    rw [hW5, heap_setCells_other _ _ _ _ _ hne]
    exact r1
  have t4 : Below w.heap.size w W5 := by
    rw [hW5]
    exact below_setCells hle2 _ _ r4.drew
  have hps : (Tryz.prog.info? 65).map (·.size) = some (pfx s0 s1 s2).size := pf_size
  have hld := box_load (t := 65) t3 _ Tryz.underlying65 rfl hps
  have hst := box_store (t := 65) (x := pfx s0 s1 s2) t1 hps (by kernel_rfl) (by rw [HZ3.out]; rfl)
  have hbx := box_whole (cs := pfx s0 s1 s2) t1 (by rw [HZ3.out]; rfl)
  have hfb := below_setCells hle1 (pfx s0 s1 s2).toList 0 t4
  have HCP := Lib.hid CP
  have HBX := Lib.hid hbx
  have HFB := Lib.hid hfb
  have HPS := Lib.hid hps
  have HLD := Lib.hid hld
  have HST := Lib.hid hst
  clear hW5 CP t3 t1 t4 hps hbx hfb hld hst
  generalize World.setCells W5 br 0 _ = W9 at *
  generalize hpx : pfx s0 s1 s2 = px at *
  have HPX := Lib.hid hpx
  clear hpx
  clear r1 r2 r3 r4
  go_wp2_with fail
  go_region_law (refine step_copy 12 15 _ _ _ _ _ _ HCP.out (by simp [Act.put]) (by simp [Act.put]) ?_)
  have hld := HLD.out
  have hst := HST.out
  go_wp2_with (first | ((with_reducible refine arm_load 17 3 65 _ _ hld ?_ ?_); rfl) | ((with_reducible refine arm_store 2 17 65 _ _ _ hst ?_ ?_ ?_); rfl; rfl))
  refine bodyPost_ret (results_cell_row rfl _ _ _ _ _ _ _ rfl HBX.out Tryz.underlying65 rfl HPS.out) rfl ?_
  exact ⟨by rw [HPX.out], HFB.out⟩
end Go.Proofs.YtpanmfdbdgecaaaGreat.C
