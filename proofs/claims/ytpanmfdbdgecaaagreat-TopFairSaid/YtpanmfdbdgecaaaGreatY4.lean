/- The walks of Pop, New (stores). · Numbers: Count, Add of two, Mul, Sub. · The parts' New: blue, sketch, window, token, table, box, turns, pace. · The parts' New: gens, turns. · Structs and arrays of plain cells that are read: an argument's reading gives its cells as literals; == of two such values is one Bool. No conditions. · Rows of the call's own: what keeps them; appends onto them at the operation; literals. No conditions. · A prefix's bytes. · Bytes that are cloned; cursors. · What is counted: Add, Because. · Cursors: Bad, Left, Raw beyond the end. · Cursors: numbers of two bytes. · Ether: frames of no bytes, frames of IPv4 without tags. · Inet: a number of two bytes, the sum of a head's words. -/
import Derived.Test.YtpanmfdbdgecaaaGreatY3
import Derived.DeepKeys4
import Derived.Deep.Slices
import Derived.ChangeSame
import Derived.Deep.QuietTactic
import Derived.BigQuiet
import Derived.Maps.RangeWalk
import Derived.Deep.AppendLies
import Derived.OneCell
import Derived.Deep.DeepMust
import Derived.Lib.LazyBuf
import Derived.Deep.RegionHeld
import Derived.Laws.BitsAllLaws
import Derived.RegionTactic
namespace Go.Proofs.YtpanmfdbdgecaaaGreat.C
open Go.RowKit
set_option linter.unusedVariables false
section
variable {w : World} {a : Adr} {L : List (List (Array Value))} {R : Nat}
theorem Sto.lt (h : Sto w a L R) : ∀ x ∈ a.sb :: a.pb :: a.bs, x < w.heap.size := by
  obtain ⟨A, fl, Q, h⟩ := h
  obtain ⟨k1, k2, k3, k4, k5, k6, k7⟩ := h.lt
  intro x hx
  simp [Adr.bs] at hx
  omega
/-- Into a block of the call's own. -/
theorem Sto.fresh {w0 w w' : World} {b : Nat} (h : Sto w a L R) (ha : Amg a.bs w0 w) (hlt : ∀ x ∈ a.sb :: a.pb :: a.bs, x < w0.heap.size) (hb : w0.heap.size ≤ b) (p : Two b b w w') : Sto w' a L R ∧ Amg a.bs w0 w' := by
  obtain ⟨A, fl, Q, hS⟩ := h
  have hM : Mid w0 w a L R A fl Q := ⟨ha, hS.ptr, hS.slab, hS.chain, hS.bytes, ⟨hlt _ (by simp), hlt _ (by simp [Adr.bs]), hlt _ (by simp [Adr.bs]), hlt _ (by simp [Adr.bs]), hlt _ (by simp [Adr.bs]), hlt _ (by simp [Adr.bs]), hlt _ (by simp [Adr.bs])⟩⟩
  exact (hM.fresh hb p).done hS.lk
theorem atS_pk {c k : Int} {x : Array Value} (h : Sto w a L R) (he : atS L c k = some x) : Pk x ∧ x[45]? = some (.int .i64 (lenP x)) ∧ 1 ≤ lenP x ∧ lenP x ≤ 9216 := by
  obtain ⟨A, fl, Q, h⟩ := h
  rcases atS_cases L c k with ⟨c, k, l, x', rfl, rfl, hl, hx, he'⟩ | ⟨he', hn⟩
  · rw [he] at he'
    injection he' with he'
    subst he'
    obtain ⟨q, hq, hql⟩ := h.lk.line hl
    have hkl := lt_of_some hx
    obtain ⟨p, hp⟩ : ∃ p, q[k]? = some p := ⟨_, List.getElem?_eq_getElem (by omega)⟩
    obtain ⟨l', x', h1, h2, h3⟩ := h.lk.at_ hq hp
    rw [hl] at h1
    injection h1 with h1
    subst h1
    rw [hx] at h2
    injection h2 with h2
    subst h2
    have := h.lk.ok l (List.mem_of_getElem? hl) x (List.mem_of_getElem? hx)
    exact ⟨h.slab.pk h3, lenP_cell (x := x) (by omega), this⟩
  · rw [he] at he'
    cases he'
end
theorem make_i64 (n : Nat) (hn : n ≤ 65536) (W : World) : (Instr.makeSlice 69 (.int .i64 (n : Int)) (.int .i64 (n : Int))).run Tryz.prog W = .ok (.slice (some ⟨W.heap.size, 0, none⟩) n n) (W.alloc (.cells (bytesV (List.replicate n [])).toArray 2)) := by
  obtain ⟨i0, hi, hz0, hz1, hz2⟩ := info_parts (show (Tryz.prog.info? 2).map (fun i => (i.zero, i.size, i.bytes)) = some (some (.int .i64 0), 1, 8) by kernel_rfl)
  have hr := run_make (P := Tryz.prog) W 69 2 i0 (.int .i64 0) Tryz.underlying69 hi hz0 .i64 .i64 n n (by omega) (by omega) (by rw [hz2]; omega) (by omega)
  simp only [Int.toNat_natCast] at hr
  rw [hr, hz1, Nat.mul_one]
  have e : madeCells (Value.int .i64 0).cells n = (bytesV (List.replicate n [])).toArray := by
    apply Array.toList_inj.1
    show (madeCells #[Value.int .i64 0] n).toList = _
    rw [toList_madeCells_one]
    simp [bytesV, sumL]
  rw [e]
set_option maxRecDepth 100000 in
theorem st_new (n R : Nat) (w : World) (h1 : 1 ≤ n) (h2 : n ≤ 129) (h3 : 1 ≤ R) (h4 : R ≤ 4096) :
    Calls Tryz.prog 60 #[.int .i64 (n : Nat), .int .i64 (R : Nat)] w fun e w' => ∃ a : Adr, e = .returned (.tuple #[.pointer (some ⟨a.sb, 0, none⟩), .int .i64 0]) ∧ (∀ x ∈ a.sb :: a.pb :: a.bs, w.heap.size ≤ x) ∧ Sto w' a (List.replicate n []) R ∧ Below w.heap.size w w' := by
  have C1 := Lib.hid (CH.c_new n R w h1 h2 h3 h4)
  have C2 := Lib.hid (fun w' => PS.s_new R w' h3 h4)
  have hmx : (if (R : Int) < 1 then (1 : Int) else (R : Int)) = (R : Int) := by rw [if_neg (by omega)]
  go_enter Tryz.func60, Tryz.ntmps60
  go_wp2_with fail
  refine C1.out.mono ?_
  rintro e w1 ⟨pb, b1, b2, rfl, g1, g2, g3, hC, hB⟩
  have HC := Lib.hid hC
  have HB := Lib.hid hB
  have HG := Lib.hid (And.intro g1 (And.intro g2 g3))
  clear C1 hC hB g1 g2 g3
  go_wp2_with fail
  refine (C2.out _).mono ?_
  rintro e w2 ⟨rfl, hS, hB2⟩
  have hmk := make_i64 n (by omega)
  have HS := Lib.hid hS
  have HB2 := Lib.hid hB2
  clear C2 hS hB2
  go_wp2
  go_ret2
  have hb2 := HB2.out
  have hg := HG.out
  have hs1 := HB.out.size
  have hs2 := hb2.size
  have p1 : Below w2.heap.size w2 (w2.alloc (.cells (bytesV (List.replicate n [])).toArray 2)) := (Below.refl _ _).alloc (Nat.le_refl _) _
  have p2 := p1.alloc (by simp) (.cells #[.pointer (some ⟨w1.heap.size + 1, 0, none⟩), .pointer (some ⟨pb, 0, none⟩), .slice (some ⟨w2.heap.size, 0, none⟩) n n] 224)
  refine ⟨⟨w2.heap.size + 1, w1.heap.size + 1, w1.heap.size, pb, b1, b2, w2.heap.size⟩, rfl, ?_, ⟨_, _, _, ⟨?_, HS.out.below p2, (HC.out.below hb2).below p2, ?_, Linked.new n R⟩⟩, (HB.out.trans (hb2.mono hs1)).trans (p2.mono (by omega))⟩
  · intro x hx
    simp [Adr.bs] at hx
    omega
  · rw [List.length_replicate]
    have := Go.heap_alloc_new (w2.alloc (.cells (bytesV (List.replicate n [])).toArray 2)) (.cells #[.pointer (some ⟨w1.heap.size + 1, 0, none⟩), .pointer (some ⟨pb, 0, none⟩), .slice (some ⟨w2.heap.size, 0, none⟩) n n] 224)
    simpa using this
  · rw [Go.heap_alloc_old _ _ (by simp)]
    exact Go.heap_alloc_new _ _
end Go.Proofs.YtpanmfdbdgecaaaGreat.C

namespace Go.Proofs.YtpanmfdbdgecaaaGreat.C
open Go.RowKit
set_option linter.unusedVariables false
/-- A number as a count. -/
def cnt (n : Int) : Int := if n < 0 then 0 else if 4611686018427387904 < n then 4611686018427387904 else n
theorem cnt_in {n : Int} (h0 : 0 ≤ n) (h1 : n ≤ 4611686018427387904) : cnt n = n := by unfold cnt; rw [if_neg (by omega), if_neg (by omega)]
theorem cnt_range (n : Int) : 0 ≤ cnt n ∧ cnt n ≤ 4611686018427387904 := by unfold cnt; split <;> (try split) <;> omega
/-- The sum of two counts. -/
def addC (x y : Int) : Int := if 4611686018427387904 < cnt x + cnt y then 4611686018427387904 else cnt x + cnt y
theorem num_count (n : Int) (w : World) : Calls Tryz.prog 105 #[.int .i64 n] w fun e w' => e = .returned (.int .i64 (cnt n)) ∧ w' = w := by
  obtain ⟨u, hu⟩ : ∃ u, (if (4611686018427387904 : Int) < n then (4611686018427387904 : Int) else n) = u := ⟨_, rfl⟩
  obtain ⟨v, hv⟩ : ∃ v, (if (0 : Int) < u then u else 0) = v := ⟨_, rfl⟩
  have e : cnt n = v := by
    unfold cnt
    split at hu <;> split at hv <;> (repeat' split) <;> omega
  rw [e]
  clear e
  go_enter Tryz.func105, Tryz.ntmps105
  go_wp2
  go_ret
  exact ⟨rfl, rfl⟩
/-- What the loop of Add has, after so many. -/
def partC (x y : Int) (k : Nat) : Int := if k = 0 then 0 else if k = 1 then cnt x else addC x y
theorem num_add (x y : Int) (b : Nat) (w : World) (c0 : w.cell? ⟨b, 0, none⟩ = some (.int .i64 x)) (c1 : w.cell? ⟨b, 1, none⟩ = some (.int .i64 y)) :
    Calls Tryz.prog 51 #[.slice (some ⟨b, 0, none⟩) 2 2] w fun e w' => e = .returned (.int .i64 (addC x y)) ∧ w' = w := by
  have C := Lib.hid num_count
  have HX := Lib.hid (cnt_range x)
  have HY := Lib.hid (cnt_range y)
  go_enter Tryz.func51, Tryz.ntmps51
  go_wp2_with fail
  go_loopw [3, 9] (fun s c wr => ∃ k : Nat, k ≤ 2 ∧ c = .int .i64 (k : Nat) ∧ s = .int .i64 (partC x y k) ∧ wr = w) (fun _ c _ => 2 - (intOf c).toNat)
  case atStart => exact ⟨0, by omega, rfl, rfl, rfl⟩
  case round =>
    obtain ⟨k, hk, rfl, rfl, rfl⟩ := hrel
    rcases (show k = 0 ∨ k = 1 ∨ k = 2 by omega) with rfl | rfl | rfl
    · have e0 : partC x y 0 = 0 := rfl
      have h1 := HX.out
      have hd : decide (4611686018427387904 < cnt x) = false := decide_eq_false (by omega)
      rw [e0]
      go_wp2_with fail
      refine (C.out _ _).mono ?_
      rintro e w1 ⟨rfl, rfl⟩
      go_wp2_with fail
      go_roundw
      case rel => exact ⟨1, by omega, by go_num, by simp [partC], by first | rfl | trivial⟩
      case measure => simp [intOf]
    · have e0 : partC x y 1 = cnt x := rfl
      have h1 := HX.out
      have h2 := HY.out
      rw [e0]
      have hw1 : IntKind.i64.wrap (4611686018427387904 - cnt x) = 4611686018427387904 - cnt x := IntWalk.i64_in _ (by omega)
      by_cases hc : 4611686018427387904 - cnt x < cnt y
      · have e2 : addC x y = 4611686018427387904 := by unfold addC; rw [if_pos (by omega)]
        have hd : decide (4611686018427387904 - cnt x < cnt y) = true := decide_eq_true hc
        go_wp2_with fail
        refine (C.out _ _).mono ?_
        rintro e w1 ⟨rfl, rfl⟩
        go_wp2_with fail
        go_roundw
        case rel => exact ⟨2, by omega, by go_num, by simp [partC, e2], by first | rfl | trivial⟩
        case measure => simp [intOf]
      · have e2 : addC x y = cnt x + cnt y := by unfold addC; rw [if_neg (by omega)]
        have hd : decide (4611686018427387904 - cnt x < cnt y) = false := decide_eq_false hc
        have hw2 : IntKind.i64.wrap (cnt x + cnt y) = cnt x + cnt y := IntWalk.i64_in _ (by omega)
        go_wp2_with fail
        refine (C.out _ _).mono ?_
        rintro e w1 ⟨rfl, rfl⟩
        go_wp2_with fail
        go_roundw
        case rel => exact ⟨2, by omega, by go_num, by simp [partC, e2], by first | rfl | trivial⟩
        case measure => simp [intOf]
    · have e0 : partC x y 2 = addC x y := rfl
      rw [e0]
      go_wp2
      go_ret
      exact ⟨rfl, rfl⟩
end Go.Proofs.YtpanmfdbdgecaaaGreat.C

namespace Go.Proofs.YtpanmfdbdgecaaaGreat.C
open Go.RowKit
set_option linter.unusedVariables false
/-- A row that is made: so many of an element's cells of noughts. -/
theorem make_row {t e : TypeId} (z : List Value) (m bytes : Nat) (hu : Tryz.prog.underlying t = some (.slice e)) (hz : z.length = m) (hm : 0 < m) (hb : bytes ≤ 4096)
    (hinfo : (Tryz.prog.info? e).map (fun i => (i.zero, i.size, i.bytes)) = some (some (.agg z.toArray), m, bytes)) (n : Nat) (k : Nat) (hk : k ≤ n) (hn : n ≤ 65536) (W : World) :
    (Instr.makeSlice t (.int .i64 (k : Int)) (.int .i64 (n : Int))).run Tryz.prog W = .ok (.slice (some ⟨W.heap.size, 0, none⟩) k n) (W.alloc (.cells (List.replicate n z).flatten.toArray e)) := by
  obtain ⟨i0, hi, hz0, hz1, hz2⟩ := info_parts hinfo
  have hbn : (bytes : Int) * (n : Int) ≤ 281474976710656 := by
    have h1 := Nat.mul_le_mul hb hn
    have e2 : (bytes : Int) * (n : Int) = ((bytes * n : Nat) : Int) := by simp
    rw [e2]
    omega
  have hr := run_make (P := Tryz.prog) W t e i0 (.agg z.toArray) hu hi hz0 .i64 .i64 k n (by omega) (by omega) (by rw [hz2]; exact hbn) (by omega)
  simp only [Int.toNat_natCast] at hr
  rw [hr, hz1]
  have e : madeCells (Value.agg z.toArray).cells (n * m) = (List.replicate n z).flatten.toArray := by
    apply Array.toList_inj.1
    exact PS.made_rep _ m hz hm n
  rw [e]
/-- A bin: bytes, when it was changed, a probability. -/
structure Bin where
  bytes : Int
  changed : Int
  p : Int
def binC (x : Bin) : List Value := [.int .i64 x.bytes, .int .i64 x.changed, .int .i64 x.p]
structure BlAt (w : World) (pb b : Nat) (l : List Bin) (lv bn : Nat) (tg hd up dn : Int) : Prop where
  ptr : w.heap[pb]? = some (.cells #[.slice (some ⟨b, 0, none⟩) l.length l.length, .int .i64 (lv : Nat), .int .i64 (bn : Nat), .int .i64 tg, .int .i64 hd, .int .i64 up, .int .i64 dn] 262 (0, 0))
  row : w.heap[b]? = some (.cells (l.map binC).flatten.toArray 288 (0, 0))
  len : l.length = lv * bn
theorem blue_tuned (tg up dn : Int) (w : World) (h0 : 0 ≤ tg) (h1 : tg ≤ 1073741824) (h2 : 0 ≤ up) (h3 : up ≤ 65536) (h4 : 0 ≤ dn) (h5 : dn ≤ 65536) :
    Calls Tryz.prog 122 #[.int .i64 tg, .int .i64 up, .int .i64 dn] w fun e w' => e = .returned (.bool true) ∧ w' = w := by
  go_enter Tryz.func122, Tryz.ntmps122
  go_wp2
  go_ret
  exact ⟨rfl, rfl⟩
theorem blue_new (lv bn : Nat) (tg hd up dn : Int) (w : World) (a0 : 1 ≤ lv) (a1 : lv ≤ 4) (b0 : 1 ≤ bn) (b1 : bn ≤ 64) (h0 : 0 ≤ tg) (h1 : tg ≤ 1073741824) (h2 : 0 ≤ up) (h3 : up ≤ 65536) (h4 : 0 ≤ dn) (h5 : dn ≤ 65536) (h6 : 0 ≤ hd) (h7 : hd ≤ 4611686018427387903) :
    Calls Tryz.prog 63 #[.int .i64 (lv : Nat), .int .i64 (bn : Nat), .int .i64 tg, .int .i64 hd, .int .i64 up, .int .i64 dn] w fun e w' => e = .returned (.tuple #[.pointer (some ⟨w.heap.size + 1, 0, none⟩), .int .i64 0]) ∧ BlAt w' (w.heap.size + 1) w.heap.size (List.replicate (lv * bn) ⟨0, 0, 0⟩) lv bn tg hd up dn ∧ Below w.heap.size w w' := by
  have C := Lib.hid (fun w' => blue_tuned tg up dn w' h0 h1 h2 h3 h4 h5)
  have hp : lv * bn ≤ 256 := Nat.le_trans (Nat.mul_le_mul a1 b1) (by omega)
  have hmk := make_row (binC ⟨0, 0, 0⟩) 3 24 Tryz.underlying260 rfl (by omega) (by omega) (by kernel_rfl) (lv * bn) (lv * bn) (Nat.le_refl _) (by omega)
  obtain ⟨m, hm⟩ : ∃ m, lv * bn = m := ⟨_, rfl⟩
  have hmI : (lv : Int) * (bn : Int) = (m : Int) := by rw [← hm]; simp
  have hwm : IntKind.i64.wrap (m : Int) = (m : Int) := IntWalk.i64_in _ (by omega)
  rw [hm] at hmk hp ⊢
  have HM := Lib.hid hm
  clear hm h0 h1 h2 h3 h4 h5
  go_enter Tryz.func63, Tryz.ntmps63
  go_wp2_with fail
  refine (C.out _).mono ?_
  rintro e w1 ⟨rfl, rfl⟩
  go_wp2
  go_ret2
  refine ⟨rfl, ⟨?_, ?_, ?_⟩, ((Below.refl _ _).alloc (Nat.le_refl _) _).alloc (by simp) _⟩
  · rw [List.length_replicate]
    have := Go.heap_alloc_new (w1.alloc (.cells (List.replicate m (binC ⟨0, 0, 0⟩)).flatten.toArray 288)) (.cells #[.slice (some ⟨w1.heap.size, 0, none⟩) m m, .int .i64 (lv : Nat), .int .i64 (bn : Nat), .int .i64 tg, .int .i64 hd, .int .i64 up, .int .i64 dn] 262)
    simpa using this
  · rw [Go.heap_alloc_old _ _ (by simp), List.map_replicate]
    exact Go.heap_alloc_new _ _
  · rw [List.length_replicate, HM.out]
/-- A slot of a sketch: a prefix's 8 cells, what it has, the error. -/
structure Slt where
  p : Array Value
  count : Int
  err : Int
def sltC (x : Slt) : List Value := x.p.toList ++ [.int .i64 x.count, .int .i64 x.err]
/-- The prefix of noughts. -/
def QZ : Array Value := #[.bool false, .int .u8 0, .int .u8 0, .int .u8 0, .int .u8 0, .int .u8 0, .int .u8 0, .int .u8 0]
/-- A sketch in memory: its slots lie ahead in a row of room. -/
structure SkAt (w : World) (pb b : Nat) (l : List Slt) (room : Nat) (total : Int) : Prop where
  ptr : w.heap[pb]? = some (.cells #[.slice (some ⟨b, 0, none⟩) l.length room, .int .i64 total] 269 (0, 0))
  row : ∃ C : Array Value, w.heap[b]? = some (.cells C 195 (0, 0)) ∧ C.size = room * 10 ∧ ∀ (j : Nat) (v : Value), (l.map sltC).flatten[j]? = some v → C[j]? = some v
  len : l.length ≤ room
  pre : ∀ x ∈ l, x.p.size = 8 ∧ x.p.all (·.oneCell') = true
theorem sketch_new (n : Nat) (w : World) (a0 : 1 ≤ n) (a1 : n ≤ 64) :
    Calls Tryz.prog 123 #[.int .i64 (n : Nat)] w fun e w' => e = .returned (.tuple #[.pointer (some ⟨w.heap.size + 1, 0, none⟩), .int .i64 0]) ∧ SkAt w' (w.heap.size + 1) w.heap.size [] n 0 ∧ Below w.heap.size w w' := by
  have hmk : ∀ W : World, (Instr.makeSlice 267 (.int .i64 0) (.int .i64 (n : Int))).run Tryz.prog W = .ok (.slice (some ⟨W.heap.size, 0, none⟩) 0 n) (W.alloc (.cells (List.replicate n (sltC ⟨QZ, 0, 0⟩)).flatten.toArray 195)) := make_row (sltC ⟨QZ, 0, 0⟩) 10 24 Tryz.underlying267 rfl (by omega) (by omega) (by kernel_rfl) n 0 (by omega) (by omega)
  have hsz : (List.replicate n (sltC ⟨QZ, 0, 0⟩)).flatten.toArray.size = n * 10 := by
    rw [List.size_toArray, flat_length 10 _ (fun c hc => by obtain ⟨_, rfl⟩ := List.mem_replicate.1 hc; rfl), List.length_replicate]
  generalize (List.replicate n (sltC ⟨QZ, 0, 0⟩)).flatten.toArray = C0 at *
  have HSZ := Lib.hid hsz
  clear hsz
  go_enter Tryz.func123, Tryz.ntmps123
  go_wp2
  go_ret2
  refine ⟨rfl, ⟨?_, ⟨C0, ?_, HSZ.out, fun j v h => by simp at h⟩, by simp, fun x h => by cases h⟩, ((Below.refl _ _).alloc (Nat.le_refl _) _).alloc (by simp) _⟩
  · have := Go.heap_alloc_new (w.alloc (.cells C0 195)) (.cells #[.slice (some ⟨w.heap.size, 0, none⟩) 0 n, .int .i64 0] 269)
    simpa using this
  · rw [Go.heap_alloc_old _ _ (by simp)]
    exact Go.heap_alloc_new _ _
theorem window_may (n : Int) (w : World) (h0 : 1 ≤ n) (h1 : n ≤ 4611686018427387903) : Calls Tryz.prog 124 #[.int .i64 n] w fun e w' => e = .returned (.bool true) ∧ w' = w := by
  go_enter Tryz.func124, Tryz.ntmps124
  go_wp2
  go_ret
  exact ⟨rfl, rfl⟩
/-- A window in memory. -/
structure WiAt (w : World) (wb pb b : Nat) (l : List Slt) (room : Nat) (total ns thr num : Int) : Prop where
  ptr : w.heap[wb]? = some (.cells #[.pointer (some ⟨pb, 0, none⟩), .int .i64 ns, .int .i64 thr, .int .i64 num] 193 (0, 0))
  sk : SkAt w pb b l room total
theorem SkAt.below {w w' : World} {pb b : Nat} {l : List Slt} {room : Nat} {total : Int} (h : SkAt w pb b l room total) (p : Below w.heap.size w w') : SkAt w' pb b l room total := by
  obtain ⟨C, h1, h2, h3⟩ := h.row
  exact ⟨keep_block p h.ptr, ⟨C, keep_block p h1, h2, h3⟩, h.len, h.pre⟩
theorem WiAt.below {w w' : World} {wb pb b : Nat} {l : List Slt} {room : Nat} {total ns thr num : Int} (h : WiAt w wb pb b l room total ns thr num) (p : Below w.heap.size w w') : WiAt w' wb pb b l room total ns thr num := ⟨keep_block p h.ptr, h.sk.below p⟩
theorem BlAt.below {w w' : World} {pb b : Nat} {l : List Bin} {lv bn : Nat} {tg hd up dn : Int} (h : BlAt w pb b l lv bn tg hd up dn) (p : Below w.heap.size w w') : BlAt w' pb b l lv bn tg hd up dn := ⟨keep_block p h.ptr, keep_block p h.row, h.len⟩
theorem window_new (n : Nat) (ns thr : Int) (w : World) (a0 : 1 ≤ n) (a1 : n ≤ 64) (h0 : 1 ≤ ns) (h1 : ns ≤ 4611686018427387903) (h2 : 1 ≤ thr) (h3 : thr ≤ 4611686018427387903) :
    Calls Tryz.prog 64 #[.int .i64 (n : Nat), .int .i64 ns, .int .i64 thr] w fun e w' => ∃ wb pb b, e = .returned (.tuple #[.pointer (some ⟨wb, 0, none⟩), .int .i64 0]) ∧ (w.heap.size ≤ wb ∧ w.heap.size ≤ pb ∧ w.heap.size ≤ b) ∧ WiAt w' wb pb b [] n 0 ns thr 0 ∧ Below w.heap.size w w' := by
  have C1 := Lib.hid (sketch_new n w a0 a1)
  have C2 := Lib.hid (fun w' => window_may ns w' h0 h1)
  have C3 := Lib.hid (fun w' => window_may thr w' h2 h3)
  go_enter Tryz.func64, Tryz.ntmps64
  go_wp2_with fail
  refine C1.out.mono ?_
  rintro e w1 ⟨rfl, hS, hB⟩
  have HS := Lib.hid hS
  have HB := Lib.hid hB
  clear C1 hS hB
  go_wp2_with fail
  refine (C2.out _).mono ?_
  rintro e w2 ⟨rfl, rfl⟩
  go_wp2_with fail
  refine (C3.out _).mono ?_
  rintro e w3 ⟨rfl, rfl⟩
  go_wp2
  go_ret2
  have hb := HB.out
  have p1 : Below w3.heap.size w3 (w3.alloc (.cells #[.pointer (some ⟨w.heap.size + 1, 0, none⟩), .int .i64 ns, .int .i64 thr, .int .i64 0] 193)) := (Below.refl _ _).alloc (Nat.le_refl _) _
  exact ⟨_, _, _, rfl, ⟨hb.size, by omega, Nat.le_refl _⟩, ⟨Go.heap_alloc_new _ _, HS.out.below p1⟩, hb.trans (p1.mono hb.size)⟩
/-- Tokens in memory. -/
def TkAt (w : World) (b : Nat) (rate most level now : Int) : Prop := w.heap[b]? = some (.cells #[.int .i64 rate, .int .i64 most, .int .i64 level, .int .i64 now] 279 (0, 0))
theorem token_new (rate burst : Int) (w : World) (h0 : 0 ≤ rate) (h1 : rate ≤ 1073741824) (h2 : 1 ≤ burst) (h3 : burst ≤ 1073741824) :
    Calls Tryz.prog 70 #[.int .i64 rate, .int .i64 burst] w fun e w' => e = .returned (.tuple #[.pointer (some ⟨w.heap.size, 0, none⟩), .int .i64 0]) ∧ TkAt w' w.heap.size rate (burst * 1048576) (burst * 1048576) 0 ∧ Below w.heap.size w w' ∧ w'.heap.size = w.heap.size + 1 := by
  have hw : IntKind.i64.wrap (burst * 1048576) = burst * 1048576 := IntWalk.i64_in _ (by omega)
  go_enter Tryz.func70, Tryz.ntmps70
  go_wp2
  go_ret2
  exact ⟨rfl, Go.heap_alloc_new _ _, (Below.refl _ _).alloc (Nat.le_refl _) _, by simp⟩
/-- A place of the box's table: free, taken or left; a prefix; up to when; where the tokens lie. -/
structure Plc where
  state : Int
  p : Array Value
  til : Int
  tok : Option Nat
def tokV (t : Option Nat) : Value := .pointer (t.map fun b => ⟨b, 0, none⟩)
def plcC (x : Plc) : List Value := [.int .i64 x.state] ++ x.p.toList ++ [.int .i64 x.til, tokV x.tok]
/-- A table in memory. -/
structure TbAt (w : World) (pb b : Nat) (l : List Plc) (room : Nat) (n : Int) : Prop where
  ptr : w.heap[pb]? = some (.cells #[.slice (some ⟨b, 0, none⟩) l.length l.length, .int .i64 (room : Nat), .int .i64 n] 277 (0, 0))
  row : w.heap[b]? = some (.cells (l.map plcC).flatten.toArray 274 (0, 0))
  len : l.length = 2 * room
  pre : ∀ x ∈ l, x.p.size = 8 ∧ x.p.all (·.oneCell') = true
def plc0 : Plc := ⟨0, QZ, 0, none⟩
theorem TbAt.below {w w' : World} {pb b : Nat} {l : List Plc} {room : Nat} {n : Int} (h : TbAt w pb b l room n) (p : Below w.heap.size w w') : TbAt w' pb b l room n := ⟨keep_block p h.ptr, keep_block p h.row, h.len, h.pre⟩
theorem table_new (n : Nat) (w : World) (a0 : 1 ≤ n) (a1 : n ≤ 64) :
    Calls Tryz.prog 125 #[.int .i64 (n : Nat)] w fun e w' => e = .returned (.tuple #[.pointer (some ⟨w.heap.size + 1, 0, none⟩), .int .i64 0]) ∧ TbAt w' (w.heap.size + 1) w.heap.size (List.replicate (2 * n) plc0) n 0 ∧ Below w.heap.size w w' := by
  have hmk := make_row (plcC plc0) 11 32 Tryz.underlying275 rfl (by omega) (by omega) (by kernel_rfl) (2 * n) (2 * n) (Nat.le_refl _) (by omega)
  obtain ⟨m, hm⟩ : ∃ m, 2 * n = m := ⟨_, rfl⟩
  have hmI : 2 * (n : Int) = (m : Int) := by omega
  have hwm : IntKind.i64.wrap (m : Int) = (m : Int) := IntWalk.i64_in _ (by omega)
  rw [hm] at hmk ⊢
  have HM := Lib.hid hm
  clear hm
  go_enter Tryz.func125, Tryz.ntmps125
  go_wp2
  go_ret2
  refine ⟨rfl, ⟨?_, ?_, ?_, fun x hx => by obtain ⟨_, rfl⟩ := List.mem_replicate.1 hx; exact ⟨rfl, by kernel_rfl⟩⟩, ((Below.refl _ _).alloc (Nat.le_refl _) _).alloc (by simp) _⟩
  · rw [List.length_replicate]
    have := Go.heap_alloc_new (w.alloc (.cells (List.replicate m (plcC plc0)).flatten.toArray 274)) (.cells #[.slice (some ⟨w.heap.size, 0, none⟩) m m, .int .i64 (n : Nat), .int .i64 0] 277)
    simpa using this
  · rw [Go.heap_alloc_old _ _ (by simp), List.map_replicate]
    exact Go.heap_alloc_new _ _
  · rw [List.length_replicate, HM.out]
/-- A box in memory. -/
structure BxAt (w : World) (xb pb b : Nat) (l : List Plc) (room : Nat) (n term rate burst : Int) : Prop where
  ptr : w.heap[xb]? = some (.cells #[.pointer (some ⟨pb, 0, none⟩), .int .i64 term, .int .i64 rate, .int .i64 burst] 203 (0, 0))
  tb : TbAt w pb b l room n
theorem BxAt.below {w w' : World} {xb pb b : Nat} {l : List Plc} {room : Nat} {n term rate burst : Int} (h : BxAt w xb pb b l room n term rate burst) (p : Below w.heap.size w w') : BxAt w' xb pb b l room n term rate burst := ⟨keep_block p h.ptr, h.tb.below p⟩
theorem box_new (n : Nat) (term rate burst : Int) (w : World) (a0 : 1 ≤ n) (a1 : n ≤ 64) (t0 : 1 ≤ term) (t1 : term ≤ 4611686018427387903) (h0 : 0 ≤ rate) (h1 : rate ≤ 1073741824) (h2 : 1 ≤ burst) (h3 : burst ≤ 1073741824) :
    Calls Tryz.prog 65 #[.int .i64 (n : Nat), .int .i64 term, .int .i64 rate, .int .i64 burst] w fun e w' => ∃ xb pb b, e = .returned (.tuple #[.pointer (some ⟨xb, 0, none⟩), .int .i64 0]) ∧ (w.heap.size ≤ xb ∧ w.heap.size ≤ pb ∧ w.heap.size ≤ b) ∧ BxAt w' xb pb b (List.replicate (2 * n) plc0) n 0 term rate burst ∧ Below w.heap.size w w' := by
  have C1 := Lib.hid (table_new n w a0 a1)
  have C2 := Lib.hid (fun w' => token_new rate burst w' h0 h1 h2 h3)
  go_enter Tryz.func65, Tryz.ntmps65
  go_wp2_with fail
  refine C1.out.mono ?_
  rintro e w1 ⟨rfl, hS, hB⟩
  have HS := Lib.hid hS
  have HB := Lib.hid hB
  clear C1 hS hB
  go_wp2_with fail
  refine (C2.out _).mono ?_
  rintro e w2 ⟨rfl, hT, hB2, hs2⟩
  have HS2 := Lib.hid (HS.out.below hB2)
  have HB2 := Lib.hid (HB.out.trans (hB2.mono HB.out.size))
  clear HS HB hB2 hT C2 hs2
  go_wp2
  go_ret2
  have hb := HB2.out
  have p1 : Below w2.heap.size w2 (w2.alloc (.cells #[.pointer (some ⟨w.heap.size + 1, 0, none⟩), .int .i64 term, .int .i64 rate, .int .i64 burst] 203)) := (Below.refl _ _).alloc (Nat.le_refl _) _
  exact ⟨_, _, _, rfl, ⟨hb.size, by omega, Nat.le_refl _⟩, ⟨Go.heap_alloc_new _ _, HS2.out.below p1⟩, hb.trans (p1.mono hb.size)⟩
/-- A pacer in memory. -/
def PaAt (w : World) (b : Nat) (ns next : Int) : Prop := w.heap[b]? = some (.cells #[.int .i64 ns, .int .i64 next] 190 (0, 0))
theorem pace_new (ns : Int) (w : World) (h0 : 1 ≤ ns) (h1 : ns ≤ 1000000) :
    Calls Tryz.prog 36 #[.int .i64 ns] w fun e w' => e = .returned (.tuple #[.pointer (some ⟨w.heap.size, 0, none⟩), .int .i64 0]) ∧ PaAt w' w.heap.size ns 0 ∧ Below w.heap.size w w' := by
  go_enter Tryz.func36, Tryz.ntmps36
  go_wp2
  go_ret2
  exact ⟨rfl, Go.heap_alloc_new _ _, (Below.refl _ _).alloc (Nat.le_refl _) _⟩
end Go.Proofs.YtpanmfdbdgecaaaGreat.C

namespace Go.Proofs.YtpanmfdbdgecaaaGreat.C
open Go.RowKit
set_option linter.unusedVariables false
/-- Generations in memory that don't move. -/
structure GnAt (w : World) (b : Nat) (n : Nat) (kv : Array Value) (G : Array Value) : Prop where
  ptr : w.heap[b]? = some (.cells G 249 (0, 0))
  size : G.size = 37
  c0 : G[0]? = some (.int .i64 (n : Nat))
  key : ∀ j, j < 16 → G[1 + j]? = kv[j]?
  old : G[33]? = some (.int .i64 0)
  mov : G[34]? = some (.bool false)
theorem GnAt.below {w w' : World} {b n : Nat} {kv G : Array Value} (h : GnAt w b n kv G) (p : Below w.heap.size w w') : GnAt w' b n kv G := ⟨keep_block p h.ptr, h.size, h.c0, h.key, h.old, h.mov⟩
theorem key_cells {kv : Array Value} (h : kv.size = 16) : ∃ k0 k1 k2 k3 k4 k5 k6 k7 k8 k9 ka kb kc kd ke kf, kv = #[k0, k1, k2, k3, k4, k5, k6, k7, k8, k9, ka, kb, kc, kd, ke, kf] := by
  rcases kv with ⟨l⟩
  match l, h with
  | [k0, k1, k2, k3, k4, k5, k6, k7, k8, k9, ka, kb, kc, kd, ke, kf], _ => exact ⟨k0, k1, k2, k3, k4, k5, k6, k7, k8, k9, ka, kb, kc, kd, ke, kf, rfl⟩
set_option maxRecDepth 100000 in
set_option maxHeartbeats 1000000 in
theorem gens_new (n : Nat) (kv : Array Value) (w : World) (hk : kv.size = 16) (a0 : 1 ≤ n) (a1 : n ≤ 64) :
    Calls Tryz.prog 59 #[.int .i64 (n : Nat), .agg kv] w fun e w' => ∃ b G, e = .returned (.tuple #[.pointer (some ⟨b, 0, none⟩), .int .i64 0]) ∧ w.heap.size ≤ b ∧ GnAt w' b n kv G ∧ Below w.heap.size w w' := by
  obtain ⟨k0, k1, k2, k3, k4, k5, k6, k7, k8, k9, ka, kb, kc, kd, ke, kf, rfl⟩ := key_cells hk
  go_enter Tryz.func59, Tryz.ntmps59
  go_wp2
  go_ret2
  refine ⟨_, ?zG, rfl, ?zl, GnAt.mk ?zp ?zs ?zc ?zk ?zo ?zm, ((Below.refl _ _).alloc (Nat.le_refl _) _).alloc (by simp) _⟩
  case zp => exact heap_alloc2_new w _ _
  case zl => simp
  case zs => rfl
  case zc => rfl
  case zo => rfl
  case zm => rfl
  case zk =>
    intro j hj
    match j, hj with
    | 0, _ | 1, _ | 2, _ | 3, _ | 4, _ | 5, _ | 6, _ | 7, _ | 8, _ | 9, _ | 10, _ | 11, _ | 12, _ | 13, _ | 14, _ | 15, _ => rfl
    | (j + 16), h => omega
theorem gens_moving {b n : Nat} {kv G : Array Value} (w : World) (h : GnAt w b n kv G) : Calls Tryz.prog 93 #[.pointer (some ⟨b, 0, none⟩)] w fun e w' => e = .returned (.bool false) ∧ w' = w := by
  have c : w.cell? ⟨b, 34, none⟩ = some (.bool false) := by rw [cell_of_row _ _ _ _ _ _ h.ptr]; exact h.mov
  clear h
  go_enter Tryz.func93, Tryz.ntmps93
  go_wp2
  go_ret
  exact ⟨rfl, rfl⟩
/-- A class of the turns. -/
structure Tcl where
  awake : Bool
  fresh : Bool
  deficit : Int
def tclC (x : Tcl) : List Value := [.bool x.awake, .bool x.fresh, .int .i64 x.deficit]
/-- Turns in memory: its line lies ahead in a row of as many cells as there are classes. -/
structure TnAt (w : World) (pb b1 b2 : Nat) (q : Int) (l : List Tcl) (line : List Nat) : Prop where
  ptr : w.heap[pb]? = some (.cells #[.int .i64 q, .slice (some ⟨b1, 0, none⟩) l.length l.length, .slice (some ⟨b2, 0, none⟩) line.length l.length] 258 (0, 0))
  row : w.heap[b1]? = some (.cells (l.map tclC).flatten.toArray 307 (0, 0))
  lin : ∃ C : Array Value, w.heap[b2]? = some (.cells C 3 (0, 0)) ∧ C.size = l.length ∧ ∀ (j : Nat) (x : Nat), line[j]? = some x → C[j]? = some (.int .i64 (x : Nat))
  len : line.length ≤ l.length
theorem TnAt.below {w w' : World} {pb b1 b2 : Nat} {q : Int} {l : List Tcl} {line : List Nat} (h : TnAt w pb b1 b2 q l line) (p : Below w.heap.size w w') : TnAt w' pb b1 b2 q l line := by
  obtain ⟨C, h1, h2⟩ := h.lin
  exact ⟨keep_block p h.ptr, keep_block p h.row, ⟨C, keep_block p h1, h2⟩, h.len⟩
theorem make_line (n : Nat) (hn : n ≤ 65536) (W : World) : (Instr.makeSlice 117 (.int .i64 0) (.int .i64 (n : Int))).run Tryz.prog W = .ok (.slice (some ⟨W.heap.size, 0, none⟩) 0 n) (W.alloc (.cells (List.replicate n (Value.int .i64 0)).toArray 3)) := by
  obtain ⟨i0, hi, hz0, hz1, hz2⟩ := info_parts (show (Tryz.prog.info? 3).map (fun i => (i.zero, i.size, i.bytes)) = some (some (.int .i64 0), 1, 8) by kernel_rfl)
  have hr := run_make (P := Tryz.prog) W 117 3 i0 (.int .i64 0) Tryz.underlying117 hi hz0 .i64 .i64 0 n (by omega) (by omega) (by rw [hz2]; omega) (by omega)
  simp only [Int.toNat_natCast] at hr
  rw [hr, hz1, Nat.mul_one]
  have e : madeCells (Value.int .i64 0).cells n = (List.replicate n (Value.int .i64 0)).toArray := by
    apply Array.toList_inj.1
    show (madeCells #[Value.int .i64 0] n).toList = _
    rw [toList_madeCells_one]
  rw [e]
  rfl
set_option maxHeartbeats 1000000 in
theorem turns_new (n : Nat) (q : Int) (w : World) (a0 : 1 ≤ n) (a1 : n ≤ 129) (q0 : 1 ≤ q) (q1 : q ≤ 1073741824) :
    Calls Tryz.prog 62 #[.int .i64 (n : Nat), .int .i64 q] w fun e w' => ∃ pb b1 b2, e = .returned (.tuple #[.pointer (some ⟨pb, 0, none⟩), .int .i64 0]) ∧ (w.heap.size ≤ pb ∧ w.heap.size ≤ b1 ∧ w.heap.size ≤ b2) ∧ TnAt w' pb b1 b2 q (List.replicate n ⟨false, false, 0⟩) [] ∧ Below w.heap.size w w' := by
  have hmk := make_row (tclC ⟨false, false, 0⟩) 3 16 Tryz.underlying256 rfl (by omega) (by omega) (by kernel_rfl) n n (Nat.le_refl _) (by omega)
  have hml := make_line n (by omega)
  have hl : ∀ (j x : Nat), ([] : List Nat)[j]? = some x → (List.replicate n (Value.int .i64 0)).toArray[j]? = some (.int .i64 (x : Nat)) := fun j x h => by simp at h
  have HL := Lib.hid hl
  clear hl
  have hs : (List.replicate n (Value.int .i64 0)).toArray.size = (List.replicate n (⟨false, false, 0⟩ : Tcl)).length := by simp
  have HS := Lib.hid hs
  clear hs
  have hr : ((List.replicate n (⟨false, false, 0⟩ : Tcl)).map tclC).flatten.toArray = (List.replicate n (tclC ⟨false, false, 0⟩)).flatten.toArray := by rw [List.map_replicate]
  have HR := Lib.hid hr
  clear hr
  have hn : (List.replicate n (⟨false, false, 0⟩ : Tcl)).length = n := by simp
  have HN := Lib.hid hn
  clear hn
  generalize (List.replicate n (Value.int .i64 0)).toArray = C2 at *
  generalize (List.replicate n (tclC ⟨false, false, 0⟩)).flatten.toArray = C1 at *
  generalize List.replicate n (⟨false, false, 0⟩ : Tcl) = l at *
  go_enter Tryz.func62, Tryz.ntmps62
  go_wp2_with fail
  go_region
  all_goals go_wp2
  all_goals go_ret2
  · refine ⟨w.heap.size + 1 + 1, w.heap.size, w.heap.size + 1, rfl, ⟨by omega, Nat.le_refl _, Nat.le_succ _⟩, ⟨?_, ?_, ⟨C2, ?_, HS.out, HL.out⟩, by simp⟩, ((((Below.refl _ _).alloc (Nat.le_refl _) _).alloc (by simp) _).alloc (by simp; omega) _).drew⟩
    · rw [HN.out]
      have := Go.heap_alloc_new ((w.alloc (.cells C1 307)).alloc (.cells C2 3)) (.cells #[.int .i64 q, .slice (some ⟨w.heap.size, 0, none⟩) n n, .slice (some ⟨w.heap.size + 1, 0, none⟩) 0 n] 258)
      have e : ((w.alloc (.cells C1 307)).alloc (.cells C2 3)).heap.size = w.heap.size + 1 + 1 := by simp
      rw [e] at this
      exact this
    · rw [HR.out]
      exact (Go.heap_alloc_old _ _ (by simp; omega)).trans (heap_alloc2_old w _ _)
    · exact (Go.heap_alloc_old _ _ (by simp)).trans (heap_alloc2_new w _ _)
  · refine ⟨w.heap.size + 1 + 1, w.heap.size + 1, w.heap.size, rfl, ⟨by omega, Nat.le_succ _, Nat.le_refl _⟩, ⟨?_, ?_, ⟨C2, ?_, HS.out, HL.out⟩, by simp⟩, ((((Below.refl _ _).alloc (Nat.le_refl _) _).alloc (by simp) _).alloc (by simp; omega) _).drew⟩
    · rw [HN.out]
      have := Go.heap_alloc_new ((w.alloc (.cells C2 3)).alloc (.cells C1 307)) (.cells #[.int .i64 q, .slice (some ⟨w.heap.size + 1, 0, none⟩) n n, .slice (some ⟨w.heap.size, 0, none⟩) 0 n] 258)
      have e : ((w.alloc (.cells C2 3)).alloc (.cells C1 307)).heap.size = w.heap.size + 1 + 1 := by simp
      rw [e] at this
      exact this
    · rw [HR.out]
      exact (Go.heap_alloc_old _ _ (by simp)).trans (heap_alloc2_new w _ _)
    · exact (Go.heap_alloc_old _ _ (by simp; omega)).trans (heap_alloc2_old w _ _)
end Go.Proofs.YtpanmfdbdgecaaaGreat.C

namespace Go.Proofs.YtpanmfdbdgecaaaGreat.C
open Go.RowKit Go.WideMaps Go.Deep Go.ChangeShapes Go.WideShapes

section
variable {H : Type} {enc : TypeId × Value → H} {P : Program} {w : World} {base : Nat} {spare : Nat → Bool} {held : Bool}

/-- A value of a flat composite type, as cells. -/
def Flat (P : Program) (t : TypeId) (cs : Array Value) : Prop := ∃ m L, P.keyTypeAt m t = true ∧ P.tiled m t = true ∧ m ≤ 10000 ∧ cs.size = P.cellsOf t ∧ (match P.underlying t with | some (.array _ _) | some (.struct _) => true | _ => false) = true ∧ P.keyLits m t cs.toList = some L
/-- Are two values one? -/
noncomputable def eqA (xs ys : Array Value) : Bool := @decide (xs = ys) (Classical.propDecidable _)
theorem eqA_iff (xs ys : Array Value) : eqA xs ys = true ↔ xs = ys := by unfold eqA; simp
theorem eqA_self (xs : Array Value) : eqA xs xs = true := (eqA_iff _ _).2 rfl

theorem Flat.equal {t : TypeId} {xs ys : Array Value} (hx : Flat P t xs) (hy : Flat P t ys) (w : World) : (Op.equal t (.agg xs) (.agg ys)).run P w = .ok (eqA xs ys) w := by
  obtain ⟨m, L, hk, ht, hm, hs, hwide, hL⟩ := hx
  obtain ⟨m', L', hk', ht', hm', hs', _, hL'⟩ := hy
  have hf : ∀ zs : Array Value, zs.size = P.cellsOf t → (Value.agg zs).formed P t = true := by
    intro zs hz
    unfold Value.formed
    split at hwide <;> rename_i hu <;> simp_all
  obtain ⟨r, hr, hiff⟩ := run_equalIn_deep (P := P) (10000 - m) m t hk w m m' (.agg xs) (.agg ys) L L' (hf xs hs) (hf ys hs') hL hL'
  have hd : 10000 - m + m = 10000 := by omega
  rw [hd] at hr
  unfold Op.equal Op.maxDepth
  rw [hr]
  congr 1
  have hxs := cells_of_lits m t ht m _ _ hL
  have hys := cells_of_lits m' t ht' m' _ _ hL'
  rw [Bool.eq_iff_iff, hiff, eqA_iff]
  constructor
  · rintro rfl
    exact Array.toList_inj.1 (hxs.trans hys.symm)
  · rintro rfl
    have : L.map Lit.toCell = L'.map Lit.toCell := hxs.symm.trans hys
    -- the same cells: the same literals
    have hcell : ∀ (a b : Nat) (l l' : List Lit), P.keyLits a t xs.toList = some l → P.keyLits b t xs.toList = some l' → l = l' := by
      intro a b l l' ha hb
      obtain ⟨r', hr', hiff'⟩ := run_equalIn_deep (P := P) (10000 - m) m t hk w a b (.agg xs) (.agg xs) l l' (hf xs hs) (hf xs hs) ha hb
      obtain ⟨r'', hr'', hiff''⟩ := run_equalIn_deep (P := P) (10000 - m) m t hk w a a (.agg xs) (.agg xs) l l (hf xs hs) (hf xs hs) ha ha
      rw [hr'] at hr''
      have : r' = r'' := by injection hr''
      subst this
      exact hiff'.1 (hiff''.2 rfl)
    exact hcell m m' L L' hL hL'

/-- Cells laid one behind the other from an address on. -/
def Laid (w : World) (a : Addr) (cs : Array Value) : Prop := ∀ j v, cs[j]? = some v → w.cell? (a.add j) = some v
theorem Laid.load {a : Addr} {cs : Array Value} (h : Laid w a cs) : (loadCells a cs.size).run P w = .ok cs w := by
  have := run_loadCells_list (P := P) w a cs.toList (fun j v hv => h j v (by simpa using hv))
  simpa using this
theorem Laid.below {B : Nat} {w' : World} {a : Addr} {cs : Array Value} (h : Laid w a cs) (hb : Below B w w') (ha : a.block < B) : Laid w' a cs := fun j v hv => by
  rw [hb.cell]
  · exact h j v hv
  · have : (a.add j).block = a.block := by unfold Addr.add; split <;> rfl
    omega

def fits1 : Value → Value → Prop
  | .bool _, .bool _ => True
  | .int k _, .int k' n => k = k' ∧ (Lit.int k n).wf = true
  | .string _, .string s => s.size ≤ maxLen
  | _, _ => False
def Fits : List Value → List Value → Prop
  | [], [] => True
  | s :: ss, c :: cs => fits1 s c ∧ Fits ss cs
  | _, _ => False
theorem Fits.append : ∀ {s s' c c' : List Value}, Fits s c → Fits s' c' → Fits (s ++ s') (c ++ c')
  | [], _, [], _, _, h => h
  | _ :: _, _, _ :: _, _, h, h' => ⟨h.1, Fits.append h.2 h'⟩
theorem Fits.flatten {α : Type} {f g : α → List Value} : ∀ (l : List α), (∀ x ∈ l, Fits (f x) (g x)) → Fits (l.map f).flatten (l.map g).flatten
  | [], _ => trivial
  | x :: l, h => by
    simp only [List.map_cons, List.flatten_cons]
    exact Fits.append (h x (by simp)) (Fits.flatten l fun y hy => h y (by simp [hy]))
theorem Fits.length : ∀ {s c : List Value}, Fits s c → s.length = c.length
  | [], [], _ => rfl
  | _ :: _, _ :: _, h => by simp [Fits.length h.2]
theorem Fits.get : ∀ {s c : List Value} (j : Nat) {u : Value}, Fits s c → s[j]? = some u → ∃ v, c[j]? = some v ∧ fits1 u v
  | _ :: _, c :: _, 0, _, h, hu => by
    simp at hu
    subst hu
    exact ⟨c, rfl, h.1⟩
  | _ :: _, _ :: _, j + 1, _, h, hu => by
    simp at hu
    obtain ⟨v, hv, hf⟩ := Fits.get j h.2 hu
    exact ⟨v, by simpa using hv, hf⟩

end
theorem Flat.size {P : Program} {t : TypeId} {cs : Array Value} (h : Flat P t cs) : cs.size = P.cellsOf t := by
  obtain ⟨_, _, _, _, _, h, _⟩ := h
  exact h
theorem Laid.drewN {w : World} {a : Addr} {cs : Array Value} (h : Laid w a cs) (n : Nat) : Laid (w.drewN n) a cs := h


section
variable {P : Program}
end
section
variable {P : Program} {C : World → Prop} {a : Act} {o : Oper} {K : Act → Prop}
end
theorem fold_set (l : List Value) : ∀ (k : Nat) (A : Array Value) (i : Nat), k + l.length ≤ A.size →
    ((l.zipIdx k).foldl (fun (cs : Array Value) (x : Value × Nat) => cs.setIfInBounds x.2 x.1) A)[i]? = if k ≤ i ∧ i < k + l.length then l[i - k]? else A[i]? := by
  induction l with
  | nil => intro k A i _; simp; intro h1 h2; omega
  | cons x l ih =>
    intro k A i h
    simp only [List.zipIdx_cons, List.foldl_cons, List.length_cons] at h ⊢
    rw [ih (k + 1) _ i (by simp; omega)]
    by_cases h1 : k + 1 ≤ i ∧ i < k + 1 + l.length
    · rw [if_pos h1, if_pos (by omega)]
      rw [show i - k = (i - (k + 1)) + 1 by omega, List.getElem?_cons_succ]
    · rw [if_neg h1]
      by_cases h2 : i = k
      · subst h2
        rw [if_pos (by omega)]
        rw [Array.getElem?_setIfInBounds_self_of_lt (by omega), Nat.sub_self]; rfl
      · rw [if_neg (by omega), Array.getElem?_setIfInBounds_ne (by omega)]

theorem run_buildSlice_one {P : Program} (t e : TypeId) (cs : Array Value) (n : Nat) (ht : P.underlying t = some (.slice e)) (hi : (P.info? e).map (·.size) = some n) (hz : ∃ z, (P.info? e).map (·.zero) = some (some z)) (h0 : 0 < n) (h1 : n ≤ 65536) (hn : cs.size = n) (w : World) :
    (Instr.buildSlice t 1 #[(0, .agg cs)]).run P w = .ok (.slice (some ⟨w.heap.size, 0, none⟩) 1 1) (w.alloc (.cells cs e)) := by
  subst hn
  obtain ⟨z, hz⟩ := hz
  cases hq : P.info? e with
  | none => simp [hq] at hi
  | some i =>
    have hs : i.size = cs.size := by simpa [hq] using hi
    have hz' : i.zero = some z := by simpa [hq] using hz
    unfold Instr.buildSlice
    simp only [Sem.run_bind, run_underlying ht, Result.andThen_ok, sizeOf, typeInfo, hq, hs, Sem.run_pure, run_program, zeroValue, Nat.one_mul]
    rw [if_neg (by omega), if_neg (by omega)]
    simp only [Sem.run_bind, Sem.run_pure, Result.andThen_ok, run_program, hq, hz', Instr.fill, Value.cells]
    generalize hZ : (Array.map _ (Array.range cs.size)) = Z
    have hZs : Z.size = cs.size := by rw [← hZ]; simp
    simp only [ne_eq, not_true_eq_false, decide_false, Bool.false_or, gt_iff_lt, Nat.zero_mul, Nat.zero_add, hZs, Nat.lt_irrefl, Bool.false_eq_true, if_false]
    have hf : (cs.zipIdx.foldl (fun (c : Array Value) (x : Value × Nat) => c.setIfInBounds x.2 x.1) Z) = cs := by
      apply Array.ext_getElem?
      intro j
      have := fold_set cs.toList 0 Z j (by simp [hZs])
      rw [← Array.foldl_toList, Array.toList_zipIdx]
      rw [this]
      by_cases hj : j < cs.size
      · rw [if_pos (by simp; exact hj)]; simp
      · rw [if_neg (by simp; omega), Array.getElem?_eq_none (by omega), Array.getElem?_eq_none (by omega)]
    simp only [hf]
    rfl

/-- One arm of the walk: a slice of one struct is built. -/
theorem wpList_buildSlice_one {P : Program} {ops : Array Oper} {rest : List Oper} {a : Act} {w : World} {Q : Exit → Act → World → Prop} (d s : Nat) (t e : TypeId) (cs : Array Value) (n : Nat) {ty : TypeId} {pos : String} {after : Array Edge}
    (hx : a.tmps.getD s undef = .agg cs) (ht : P.underlying t = some (.slice e)) (hi : (P.info? e).map (·.size) = some n) (hz : ∃ z, (P.info? e).map (·.zero) = some (some z)) (h0 : 0 < n) (h1 : n ≤ 65536) (hn : cs.size = n)
    (h : wpList P ops Q rest (a.put (some d) (.slice (some ⟨w.heap.size, 0, none⟩) 1 1)) (w.alloc (.cells cs e))) : wpList P ops Q (⟨some d, .buildSlice t 1 #[(0, .tmp s)], ty, pos, after, none⟩ :: rest) a w :=
  wpList_plain rfl fun _ hK => by
    have hx' : a.eval (.tmp s) = .agg cs := hx
    unfold Oper.wp execOp
    simp only [List.map_toArray, List.map_cons, List.map_nil, hx', Sem.run_bind, run_buildSlice_one t e cs n ht hi hz h0 h1 hn, Result.andThen_ok, Sem.run_pure]
    exact hK _ _ h

end Go.Proofs.YtpanmfdbdgecaaaGreat.C

namespace Go.Proofs.YtpanmfdbdgecaaaGreat.C.OW
open Go.RowKit
set_option linter.unusedVariables false
section
variable {w w' : World} {base n : Nat} {e : TypeId} {size : Nat} {v : Value} {xs : List Value}
theorem slice (h : w.ownsRow base e size v n xs) : ∃ A c, v = .slice A n c := by
  rcases h.2 with ⟨rfl, rfl⟩ | ⟨g, cap, cur, rfl, _⟩
  · exact ⟨none, 0, rfl⟩
  · exact ⟨_, cap, rfl⟩
theorem below (o : w.ownsRow base e size v n xs) (p : Below w.heap.size w w') : w'.ownsRow base e size v n xs :=
  World.ownsRow.kept (row := none) o ⟨p.os, p.tape, p.output, p.size, fun k hk _ => p.block k hk⟩ (by
    cases hv : v.ownBlock
    · exact .inl rfl
    · exact .inr (by simp))
theorem keep (o : w.ownsRow base e size v n xs) (p : ∀ k, base ≤ k → k < w.heap.size → w'.heap[k]? = w.heap[k]?) : w'.ownsRow base e size v n xs := by
  refine ⟨o.1, ?_⟩
  rcases o.2 with h0 | ⟨q, cp, cur, hv, hg, hh, r⟩
  · exact .inl h0
  · exact .inr ⟨q, cp, cur, hv, hg, (p q hg (Array.getElem?_eq_some_iff.1 hh).1).trans hh, r⟩
theorem two {g h : Nat} (o : w.ownsRow base e size v n xs) (p : Two g h w w') (h1 : g < base) (h2 : h < base) : w'.ownsRow base e size v n xs :=
  keep o fun k hk hk' => p.block k hk' (by omega) (by omega)
theorem empty {b : Nat} (h : w.heap[b]? = some (.cells #[] e (0, 0))) (hb : base ≤ b) : w.ownsRow base e size (.slice (some ⟨b, 0, none⟩) 0 0) 0 [] :=
  ⟨by simp, .inr ⟨b, 0, #[], rfl, hb, h, Nat.le_refl _, by simp [maxLen], by simp, by simp⟩⟩
theorem block (o : w.ownsRow base e size v n xs) {b : Nat} (hv : v.ownBlock = some b) : ∃ cur, w.heap[b]? = some (.cells cur e (0, 0)) := by
  rcases o.2 with ⟨rfl, _⟩ | ⟨q, cp, cur, rfl, _, hh, _⟩
  · simp [Value.ownBlock] at hv
  · simp only [Value.ownBlock, Option.some.injEq] at hv
    subst hv
    exact ⟨cur, hh⟩
theorem setCell {b j : Nat} (o : w.ownsRow base e size v n xs) (h : v.ownBlock ≠ some b) (u : Value) : (w.setCell ⟨b, j, none⟩ u).ownsRow base e size v n xs := by
  refine ⟨o.1, ?_⟩
  rcases o.2 with h0 | ⟨q, cp, cur, rfl, hg, hh, r⟩
  · exact .inl h0
  · refine .inr ⟨q, cp, cur, rfl, hg, ?_, r⟩
    rw [heap_setCell_other _ _ _ _ (by simp [Value.ownBlock] at h; simpa using h)]
    exact hh
theorem cap {g c : Nat} (o : w.ownsRow base e size (.slice (some ⟨g, 0, none⟩) n c) n xs) : n ≤ c ∧ c ≤ maxLen := by
  rcases o.2 with ⟨h0, _⟩ | ⟨q, cp, cur, hv, _, _, h1, h2, _⟩
  · cases h0
  · injection hv with _ _ hv3
    subst hv3
    exact ⟨h1, h2⟩
end
theorem addr_off (g o j : Nat) : (⟨g, o, none⟩ : Addr).add j = ⟨g, o + j, none⟩ := by
  unfold Addr.add
  split
  · rename_i h
    subst h
    rfl
  · rfl
end Go.Proofs.YtpanmfdbdgecaaaGreat.C.OW

namespace Go.Proofs.YtpanmfdbdgecaaaGreat.C
open Go.RowKit
set_option linter.unusedVariables false
/-- A prefix: whether it is of IPv6, 7 bytes. -/
structure Pre (p : Array Value) (v : Bool) : Prop where
  size : p.size = 8
  c0 : p[0]? = some (.bool v)
  one : p.all (·.oneCell') = true
def bytesP (p : Array Value) (v : Bool) : List Value := [.int .u8 (if v then 1 else 0)] ++ (p.extract 1 8).toList
theorem u8_info : (Tryz.prog.info? 5).map (fun i => (i.zero, i.size, i.bytes)) = some (some (.int .u8 0), 1, 1) := by kernel_rfl
set_option maxRecDepth 100000 in
theorem bytes_of (p : Array Value) (v : Bool) (w : World) (h : Pre p v) :
    Calls Tryz.prog 163 #[.agg p] w fun e w' => ∃ u, e = .returned u ∧ w'.ownsRow w.heap.size 5 1 u 8 (bytesP p v) ∧ Below w.heap.size w w' := by
  obtain ⟨i0, hi, hz0, hz1, hz2⟩ := info_parts u8_info
  have Hi := Lib.hid hi
  have Hz0 := Lib.hid hz0
  have Hz1 := Lib.hid hz1
  have Hz2 := Lib.hid hz2
  have HP := Lib.hid h
  clear hi hz0 hz1 hz2 h
  have hx : ∀ u ∈ (p.extract 1 8).toList, u.oneCell' = true := fun u hu => by
    obtain ⟨j, hj⟩ := List.getElem?_of_mem hu
    rw [Array.getElem?_toList, Array.getElem?_extract] at hj
    split at hj
    · exact Array.all_eq_true_iff_forall_mem.1 HP.out.one u (Array.mem_of_getElem? hj)
    · cases hj
  have HX1 := Lib.hid hx
  clear hx
  have hlen : (p.extract 1 8).toList.length = 7 := by simp [HP.out.size]
  have HLEN := Lib.hid hlen
  clear hlen
  have HN : Hid (∀ (j : Nat) (u : Value), (p.extract 1 8).toList[j]? = some u → p[1 + j]? = some u) := Lib.hid fun j u hu => by
    have hj := (List.getElem?_eq_some_iff.1 hu).1
    rw [HLEN.out] at hj
    rw [Array.getElem?_toList, Array.getElem?_extract, if_pos (by rw [HP.out.size]; omega)] at hu
    exact hu
  unfold bytesP
  generalize (p.extract 1 8).toList = L at *
  have HC0 : Hid (∀ w1 : World, w1.heap[w.heap.size]? = some (.cells p 65 (0, 0)) → w1.cell? ⟨w.heap.size, 0, none⟩ = some (.bool v)) := Lib.hid fun w1 hb => by
    rw [cell_of_row _ _ _ _ _ _ hb]
    exact HP.out.c0
  cases v
  · go_enter Tryz.func163, Tryz.ntmps163
    go_upto_region 1 with ((with_reducible refine arm_box 1 0 65 p ?_ ?_); rfl; intro w1 HB HX HS)
    have c0 := HC0.out _ HX.out
    go_upto_region 4 with (fail)
    clear c0
    have hb1 : Below w1.heap.size w1 (w1.alloc (.cells #[.int .u8 0] 5)) := (Below.refl _ _).alloc (Nat.le_refl _) _
    have HB1 := Lib.hid (HB.out.trans (hb1.mono HB.out.size))
    have HOWN : Hid ((w1.alloc (.cells #[.int .u8 0] 5)).ownsRow w.heap.size 5 1 (.slice (some ⟨w1.heap.size, 0, none⟩) 1 1) 1 [.int .u8 0]) := Lib.hid ⟨by simp, .inr ⟨w1.heap.size, 1, #[.int .u8 0], rfl, HB.out.size, Go.heap_alloc_new _ _, Nat.le_refl _, by simp [maxLen], by simp, by simp⟩⟩
    have HXB := Lib.hid (keep_block hb1 HX.out)
    clear hb1
    go_wp2_with (at_builtin; go_must (refine wpList_append_own_at _ rfl (.tmp 7) (.tmp 9) 37 rfl w.heap.size 5 i0 (.int .u8 0) 1 1 Tryz.underlying37 Hi.out Hz0.out Hz1.out Hz2.out rfl (by omega) (.slice (some ⟨w1.heap.size, 0, none⟩) 1 1) 1 [.int .u8 0] rfl HOWN.out ⟨w.heap.size, 1, none⟩ 7 7 L rfl ?hl ?hn HX1.out ?h63 ?hb ?hbase ?next))
    case hl => rw [HLEN.out]
    case hn =>
      intro j u hu
      rw [OW.addr_off, cell_of_row _ _ _ _ _ _ HXB.out]
      exact HN.out j u hu
    case h63 => simp only [maxLen]; omega
    case hb => omega
    case hbase => exact HB1.out.size
    case next =>
      intro v' w' hown hg _ hat
      have hB : Below w.heap.size w w' := HB1.out.grown hg HB1.out.size (fun q hq => (World.ownsRow.lt HOWN.out q hq).1)
      have HO := Lib.hid hown
      have HB2 := Lib.hid hB
      clear hown hg hat hB
      go_wp2
      go_ret
      exact ⟨_, rfl, HO.out, HB2.out⟩
  · go_enter Tryz.func163, Tryz.ntmps163
    go_upto_region 1 with ((with_reducible refine arm_box 1 0 65 p ?_ ?_); rfl; intro w1 HB HX HS)
    have c0 := HC0.out _ HX.out
    go_upto_region 4 with (fail)
    clear c0
    have hb1 : Below w1.heap.size w1 (w1.alloc (.cells #[.int .u8 1] 5)) := (Below.refl _ _).alloc (Nat.le_refl _) _
    have HB1 := Lib.hid (HB.out.trans (hb1.mono HB.out.size))
    have HOWN : Hid ((w1.alloc (.cells #[.int .u8 1] 5)).ownsRow w.heap.size 5 1 (.slice (some ⟨w1.heap.size, 0, none⟩) 1 1) 1 [.int .u8 1]) := Lib.hid ⟨by simp, .inr ⟨w1.heap.size, 1, #[.int .u8 1], rfl, HB.out.size, Go.heap_alloc_new _ _, Nat.le_refl _, by simp [maxLen], by simp, by simp⟩⟩
    have HXB := Lib.hid (keep_block hb1 HX.out)
    clear hb1
    go_wp2_with (at_builtin; go_must (refine wpList_append_own_at _ rfl (.tmp 7) (.tmp 9) 37 rfl w.heap.size 5 i0 (.int .u8 0) 1 1 Tryz.underlying37 Hi.out Hz0.out Hz1.out Hz2.out rfl (by omega) (.slice (some ⟨w1.heap.size, 0, none⟩) 1 1) 1 [.int .u8 1] rfl HOWN.out ⟨w.heap.size, 1, none⟩ 7 7 L rfl ?hl ?hn HX1.out ?h63 ?hb ?hbase ?next))
    case hl => rw [HLEN.out]
    case hn =>
      intro j u hu
      rw [OW.addr_off, cell_of_row _ _ _ _ _ _ HXB.out]
      exact HN.out j u hu
    case h63 => simp only [maxLen]; omega
    case hb => omega
    case hbase => exact HB1.out.size
    case next =>
      intro v' w' hown hg _ hat
      have hB : Below w.heap.size w w' := HB1.out.grown hg HB1.out.size (fun q hq => (World.ownsRow.lt HOWN.out q hq).1)
      have HO := Lib.hid hown
      have HB2 := Lib.hid hB
      clear hown hg hat hB
      go_wp2
      go_ret
      exact ⟨_, rfl, HO.out, HB2.out⟩
end Go.Proofs.YtpanmfdbdgecaaaGreat.C

namespace Go.Proofs.YtpanmfdbdgecaaaGreat.C
open Go.RowKit
set_option linter.unusedVariables false
theorem eql_nil (a : Option Addr) (n c : Nat) (w : World) : (binOp .eql 37 (.slice a n c) (.slice none 0 0)).run Tryz.prog w = .ok (.bool a.isNone) w := Go.run_eql_slice_nil w 37 5 a n c Tryz.underlying37
set_option maxRecDepth 100000 in
theorem clone_nil (w : World) : Calls Tryz.prog 113 #[.slice none 0 0] w fun e w' => e = .returned (.slice none 0 0) ∧ w' = w := by
  have hq := eql_nil none 0 0
  go_enter Tryz.func113, Tryz.ntmps113
  go_wp2
  go_ret
  exact ⟨rfl, rfl⟩
set_option maxRecDepth 100000 in
theorem clone_bytes (a : Addr) (n c : Nat) (L : List Value) (w : World) (hl : L.length = n) (hc : ∀ (j : Nat) (u : Value), L[j]? = some u → w.cell? (a.add j) = some u) (h1 : ∀ u ∈ L, u.oneCell' = true) (hn : n ≤ 65536) (ha : a.block < w.heap.size) :
    Calls Tryz.prog 113 #[.slice (some a) n c] w fun e w' => ∃ u, e = .returned u ∧ w'.ownsRow w.heap.size 5 1 u n L ∧ Below w.heap.size w w' := by
  obtain ⟨i0, hi, hz0, hz1, hz2⟩ := info_parts u8_info
  have Hi := Lib.hid hi
  have Hz0 := Lib.hid hz0
  have Hz1 := Lib.hid hz1
  have Hz2 := Lib.hid hz2
  have HLEN := Lib.hid hl
  have HCC := Lib.hid hc
  have H1 := Lib.hid h1
  clear hi hz0 hz1 hz2 hl hc h1
  have HAB : Hid (∀ j, (a.add j).block < w.heap.size) := Lib.hid fun j => by
    have : (a.add j).block = a.block := by unfold Addr.add; split <;> rfl
    omega
  have hb1 : Below w.heap.size w (w.alloc (.cells #[] 5)) := (Below.refl _ _).alloc (Nat.le_refl _) _
  have HB1 := Lib.hid hb1
  have HOWN : Hid ((w.alloc (.cells #[] 5)).ownsRow w.heap.size 5 1 (.slice (some ⟨w.heap.size, 0, none⟩) 0 0) 0 []) := Lib.hid (OW.empty (Go.heap_alloc_new _ _) (Nat.le_refl _))
  have hq := eql_nil (some a) n c
  clear hb1 ha
  go_enter Tryz.func113, Tryz.ntmps113
  go_wp2_with (at_builtin; go_must (refine wpList_append_own_at _ rfl (.tmp 5) (.tmp 6) 37 rfl w.heap.size 5 i0 (.int .u8 0) 1 1 Tryz.underlying37 Hi.out Hz0.out Hz1.out Hz2.out rfl (by omega) (.slice (some ⟨w.heap.size, 0, none⟩) 0 0) 0 [] rfl HOWN.out a n c L rfl ?hl ?hn H1.out ?h63 ?hb ?hbase ?next))
  case hl => rw [HLEN.out, Nat.mul_one]
  case hn =>
    intro j u hu
    rw [HB1.out.cell (HAB.out j)]
    exact HCC.out j u hu
  case h63 => simp only [maxLen]; omega
  case hb => omega
  case hbase => exact HB1.out.size
  case next =>
    intro v' w' hown hg _ hat
    have hB : Below w.heap.size w w' := HB1.out.grown hg HB1.out.size (fun q hq => (World.ownsRow.lt HOWN.out q hq).1)
    have HO := Lib.hid hown
    have HB2 := Lib.hid hB
    clear hown hg hat hB
    go_wp2
    go_ret
    exact ⟨_, rfl, HO.out, HB2.out⟩
/-- A cursor in memory: what is left of its bytes, whether it is bad. -/
structure CuAt (w : World) (base b : Nat) (A : Option Addr) (n c : Nat) (L : List Value) (bad : Bool) : Prop where
  ptr : w.heap[b]? = some (.cells #[.slice A n c, .bool bad] 317 (0, 0))
  len : L.length = n
  one : ∀ u ∈ L, u.oneCell' = true
  row : n ≠ 0 → ∃ g o, A = some ⟨g, o, none⟩ ∧ base ≤ g ∧ g < w.heap.size ∧ (n ≤ c ∧ c ≤ maxLen) ∧ g ≠ b ∧ ∀ (j : Nat) (u : Value), L[j]? = some u → w.cell? ⟨g, o + j, none⟩ = some u
set_option maxRecDepth 100000 in
theorem cursor_new_nil (w : World) : Calls Tryz.prog 106 #[.slice none 0 0] w fun e w' => e = .returned (.pointer (some ⟨w.heap.size, 0, none⟩)) ∧ CuAt w' w.heap.size w.heap.size none 0 0 [] false ∧ Below w.heap.size w w' := by
  have C := Lib.hid (clone_nil w)
  go_enter Tryz.func106, Tryz.ntmps106
  go_wp2_with fail
  refine C.out.mono ?_
  rintro e w1 ⟨rfl, rfl⟩
  go_wp2
  go_ret
  exact ⟨rfl, ⟨Go.heap_alloc_new _ _, rfl, (fun u hu => by cases hu), fun h => absurd rfl h⟩, (Below.refl _ _).alloc (Nat.le_refl _) _⟩
end Go.Proofs.YtpanmfdbdgecaaaGreat.C

namespace Go.Proofs.YtpanmfdbdgecaaaGreat.C
open Go.RowKit
set_option linter.unusedVariables false
theorem new_c0 (w : World) (a b : Value) (t : TypeId) : (w.alloc (.cells #[a, b] t)).cell? ⟨w.heap.size, 0, none⟩ = some a := by rw [cell_of_row _ _ _ _ _ _ (Go.heap_alloc_new w _)]; rfl
theorem new_c1 (w : World) (a b : Value) (t : TypeId) : (w.alloc (.cells #[a, b] t)).cell? ⟨w.heap.size, 1, none⟩ = some b := by rw [cell_of_row _ _ _ _ _ _ (Go.heap_alloc_new w _)]; rfl
theorem two_ofB {x y : Nat} {a b : World} (p : Below a.heap.size a b) : Two x y a b := ⟨p.os, p.tape, p.output, p.size, fun k hk _ _ => p.block k hk⟩
theorem two_next {x y : Nat} {a b c : World} (p : Two x y a b) (q : Below b.heap.size b c) : Two x y a c := p.trans (two_ofB q)
set_option maxRecDepth 100000 in
theorem stats_add (eb off k : Nat) (x n : Int) (w : World) (hk : k < 15) (hx : w.cell? ⟨eb, off + k, none⟩ = some (.int .i64 x)) (hf : w.frozen? ⟨eb, off + k, none⟩ = false) (ho : off ≠ 0) :
    Calls Tryz.prog 29 #[.pointer (some ⟨eb, off, none⟩), .int .i64 (k : Nat), .int .i64 n] w fun e w' => e = .returned (.tuple #[]) ∧ Below w.heap.size (w.setCell ⟨eb, off + k, none⟩ (.int .i64 (addC x n))) w' := by
  have hb := World.block_lt_of_cell? w _ hx
  go_enter Tryz.func29, Tryz.ntmps29
  go_wp2_with fail
  have hx' : w.drew.cell? ⟨eb, off + k, none⟩ = some (.int .i64 x) := hx
  have hf' : w.drew.frozen? ⟨eb, off + k, none⟩ = false := hf
  have CA := Lib.hid (num_add x n)
  refine wp_region_held_drew (S := Two eb eb w) (by kernel_rfl) (two_ofB (Below.refl _ _).drew) (fun hHeld => ?_)
  refine wpAnyH_take (i := 0) (oi := ⟨some 16, _, _, _, _, _⟩) (v := ?_) rfl (by kernel_rfl) (by kernel_rfl) (by kernel_rfl) (fun _ _ _ h => h) (Or.inl ⟨by rfl, ?_⟩) hHeld ?_
  rotate_left
  · intro w hSw
    go_simp
    try with_reducible rfl
  try simp only [Act.put, List.setIfInBounds_toArray, List.set_cons_zero, List.set_cons_succ]
  refine wpAnyH_take (i := 1) (oi := ⟨some 17, _, _, _, _, _⟩) (v := ?_) rfl (by kernel_rfl) (by kernel_rfl) (by kernel_rfl) (fun _ _ _ h => h) (Or.inl ⟨by rfl, ?_⟩) hHeld ?_
  rotate_left
  · intro w hSw
    go_simp
    try with_reducible rfl
  try simp only [Act.put, List.setIfInBounds_toArray, List.set_cons_zero, List.set_cons_succ]
  refine wpAnyH_take (i := 2) (oi := ⟨some 18, _, _, _, _, _⟩) (v := ?_) rfl (by kernel_rfl) (by kernel_rfl) (by kernel_rfl) (fun _ _ _ h => h) (Or.inl ⟨by rfl, ?_⟩) hHeld ?_
  rotate_left
  · intro w hSw
    go_simp
    try with_reducible rfl
  try simp only [Act.put, List.setIfInBounds_toArray, List.set_cons_zero, List.set_cons_succ]
  refine wpAnyH_take (i := 3) (oi := ⟨some 19, _, _, _, _, _⟩) (v := ?_) rfl (by kernel_rfl) (by kernel_rfl) (by kernel_rfl) (fun _ _ _ h => h) (Or.inl ⟨by rfl, ?_⟩) hHeld ?_
  rotate_left
  · intro w hSw
    go_simp
    try with_reducible rfl
  try simp only [Act.put, List.setIfInBounds_toArray, List.set_cons_zero, List.set_cons_succ]
  refine wpAnyH_take (i := 4) (oi := ⟨some 20, _, _, _, _, _⟩) (v := ?_) rfl (by kernel_rfl) (by kernel_rfl) (by kernel_rfl) (fun _ _ _ h => h) (Or.inl ⟨by rfl, ?_⟩) hHeld ?_
  rotate_left
  · intro w hSw
    go_simp
    try with_reducible rfl
  try simp only [Act.put, List.setIfInBounds_toArray, List.set_cons_zero, List.set_cons_succ]
  refine wpAnyH_take (i := 5) (oi := ⟨some 21, _, _, _, _, _⟩) (v := ?_) rfl (by kernel_rfl) (by kernel_rfl) (by kernel_rfl) (fun _ _ _ h => h) (Or.inl ⟨by rfl, ?_⟩) hHeld ?_
  rotate_left
  · intro w hSw
    go_simp
    try with_reducible rfl
  try simp only [Act.put, List.setIfInBounds_toArray, List.set_cons_zero, List.set_cons_succ]
  refine wpAnyH_take (i := 6) (oi := ⟨some 22, _, _, _, _, _⟩) (v := ?_) rfl (by kernel_rfl) (by kernel_rfl) (by kernel_rfl) (fun _ _ _ h => h) (Or.inl ⟨by rfl, ?_⟩) hHeld ?_
  rotate_left
  · intro w hSw
    go_simp
    try with_reducible rfl
  try simp only [Act.put, List.setIfInBounds_toArray, List.set_cons_zero, List.set_cons_succ]
  refine wpAnyH_take (i := 8) (oi := ⟨some 24, _, _, _, _, _⟩) (v := ?_) rfl (by kernel_rfl) (by kernel_rfl) (by kernel_rfl) (fun _ _ _ h => h) (Or.inl ⟨by rfl, ?_⟩) hHeld ?_
  rotate_left
  · intro w hSw
    go_simp
    try with_reducible rfl
  try simp only [Act.put, List.setIfInBounds_toArray, List.set_cons_zero, List.set_cons_succ]
  refine wpAnyH_take (i := 11) (oi := ⟨some 27, _, _, _, _, _⟩) (v := ?_) rfl (by kernel_rfl) (by kernel_rfl) (by kernel_rfl) (fun _ _ _ h => h) (Or.inl ⟨by rfl, ?_⟩) hHeld ?_
  rotate_left
  · intro w hSw
    go_simp
    try with_reducible rfl
  try simp only [Act.put, List.setIfInBounds_toArray, List.set_cons_zero, List.set_cons_succ]
  refine wpAnyH_take (i := 12) (oi := ⟨some 28, _, _, _, _, _⟩) (v := ?_) rfl (by kernel_rfl) (by kernel_rfl) (by kernel_rfl) (fun _ _ _ h => h) (Or.inl ⟨by rfl, ?_⟩) hHeld ?_
  rotate_left
  · intro w hSw
    go_simp
    try with_reducible rfl
  try simp only [Act.put, List.setIfInBounds_toArray, List.set_cons_zero, List.set_cons_succ]
  refine wpAnyH_ready (rs := [7]) (by kernel_rfl) (by simp) ?_
  refine AllReadyH.cons rfl (fun K hK => ?_) AllReadyH.nil
  go_simp
  refine hK.out _ _ (hHeld) (fun hHeld => ?_)
  clear hK K
  refine wpAnyH_ready (rs := [9]) (by kernel_rfl) (by simp) ?_
  refine AllReadyH.cons rfl (fun K hK => ?_) AllReadyH.nil
  go_simp
  refine hK.out _ _ (two_next hHeld ((Below.refl _ _).alloc (Nat.le_refl _) _)) (fun hHeld => ?_)
  clear hK K
  refine wpAnyH_ready (rs := [10]) (by kernel_rfl) (by simp) ?_
  refine AllReadyH.cons rfl (fun K hK => ?_) AllReadyH.nil
  go_simp
  go_wp2_with (go_at_call 51; go_must (refine (CA.out w.heap.size (w.alloc (.cells #[.int .i64 x, .int .i64 n] 2)).drew (new_c0 w _ _ _) (new_c1 w _ _ _)).mono ?_; rintro e w10 ⟨rfl, rfl⟩))
  refine hK.out _ _ (hHeld) (fun hHeld => ?_)
  clear hK K
  refine wpAnyH_take (i := 13) (oi := ⟨some 29, _, _, _, _, _⟩) (v := ?_) rfl (by kernel_rfl) (by kernel_rfl) (by kernel_rfl) (fun _ _ _ h => h) (Or.inl ⟨by rfl, ?_⟩) hHeld ?_
  rotate_left
  · intro w hSw
    go_simp
    try with_reducible rfl
  try simp only [Act.put, List.setIfInBounds_toArray, List.set_cons_zero, List.set_cons_succ]
  refine wpAnyH_ready (rs := [14]) (by kernel_rfl) (by simp) ?_
  refine AllReadyH.cons rfl (fun K hK => ?_) AllReadyH.nil
  go_simp
  refine hK.out _ _ (two_next ((Two.refl eb eb w).setCell (.inl rfl) _) (((Below.refl _ _).alloc (Nat.le_refl _) _).drew)) (fun hHeld => ?_)
  clear hK K
  refine wpAnyH_done (by kernel_rfl) ?_ _
  go_wp2
  go_end0
  exact ⟨rfl, ((Below.refl _ _).alloc (by simp [World.setCell]) _).drew⟩
set_option maxRecDepth 100000 in
theorem stats_because (eb off k : Nat) (x n : Int) (w : World) (hk : k < 16) (hx : w.cell? ⟨eb, off + 15 + k, none⟩ = some (.int .i64 x)) (hf : w.frozen? ⟨eb, off + 15 + k, none⟩ = false) (ho : off ≠ 0) :
    Calls Tryz.prog 31 #[.pointer (some ⟨eb, off, none⟩), .int .i64 (k : Nat), .int .i64 n] w fun e w' => e = .returned (.tuple #[]) ∧ Below w.heap.size (w.setCell ⟨eb, off + 15 + k, none⟩ (.int .i64 (addC x n))) w' := by
  have hb := World.block_lt_of_cell? w _ hx
  go_enter Tryz.func31, Tryz.ntmps31
  go_wp2_with fail
  have hx' : w.drew.cell? ⟨eb, off + 15 + k, none⟩ = some (.int .i64 x) := hx
  have hf' : w.drew.frozen? ⟨eb, off + 15 + k, none⟩ = false := hf
  have CA := Lib.hid (num_add x n)
  refine wp_region_held_drew (S := Two eb eb w) (by kernel_rfl) (two_ofB (Below.refl _ _).drew) (fun hHeld => ?_)
  refine wpAnyH_take (i := 0) (oi := ⟨some 16, _, _, _, _, _⟩) (v := ?_) rfl (by kernel_rfl) (by kernel_rfl) (by kernel_rfl) (fun _ _ _ h => h) (Or.inl ⟨by rfl, ?_⟩) hHeld ?_
  rotate_left
  · intro w hSw
    go_simp
    try with_reducible rfl
  try simp only [Act.put, List.setIfInBounds_toArray, List.set_cons_zero, List.set_cons_succ]
  refine wpAnyH_take (i := 1) (oi := ⟨some 17, _, _, _, _, _⟩) (v := ?_) rfl (by kernel_rfl) (by kernel_rfl) (by kernel_rfl) (fun _ _ _ h => h) (Or.inl ⟨by rfl, ?_⟩) hHeld ?_
  rotate_left
  · intro w hSw
    go_simp
    try with_reducible rfl
  try simp only [Act.put, List.setIfInBounds_toArray, List.set_cons_zero, List.set_cons_succ]
  refine wpAnyH_take (i := 2) (oi := ⟨some 18, _, _, _, _, _⟩) (v := ?_) rfl (by kernel_rfl) (by kernel_rfl) (by kernel_rfl) (fun _ _ _ h => h) (Or.inl ⟨by rfl, ?_⟩) hHeld ?_
  rotate_left
  · intro w hSw
    go_simp
    try with_reducible rfl
  try simp only [Act.put, List.setIfInBounds_toArray, List.set_cons_zero, List.set_cons_succ]
  refine wpAnyH_take (i := 3) (oi := ⟨some 19, _, _, _, _, _⟩) (v := ?_) rfl (by kernel_rfl) (by kernel_rfl) (by kernel_rfl) (fun _ _ _ h => h) (Or.inl ⟨by rfl, ?_⟩) hHeld ?_
  rotate_left
  · intro w hSw
    go_simp
    try with_reducible rfl
  try simp only [Act.put, List.setIfInBounds_toArray, List.set_cons_zero, List.set_cons_succ]
  refine wpAnyH_take (i := 4) (oi := ⟨some 20, _, _, _, _, _⟩) (v := ?_) rfl (by kernel_rfl) (by kernel_rfl) (by kernel_rfl) (fun _ _ _ h => h) (Or.inl ⟨by rfl, ?_⟩) hHeld ?_
  rotate_left
  · intro w hSw
    go_simp
    try with_reducible rfl
  try simp only [Act.put, List.setIfInBounds_toArray, List.set_cons_zero, List.set_cons_succ]
  refine wpAnyH_take (i := 5) (oi := ⟨some 21, _, _, _, _, _⟩) (v := ?_) rfl (by kernel_rfl) (by kernel_rfl) (by kernel_rfl) (fun _ _ _ h => h) (Or.inl ⟨by rfl, ?_⟩) hHeld ?_
  rotate_left
  · intro w hSw
    go_simp
    try with_reducible rfl
  try simp only [Act.put, List.setIfInBounds_toArray, List.set_cons_zero, List.set_cons_succ]
  refine wpAnyH_take (i := 6) (oi := ⟨some 22, _, _, _, _, _⟩) (v := ?_) rfl (by kernel_rfl) (by kernel_rfl) (by kernel_rfl) (fun _ _ _ h => h) (Or.inl ⟨by rfl, ?_⟩) hHeld ?_
  rotate_left
  · intro w hSw
    go_simp
    try with_reducible rfl
  try simp only [Act.put, List.setIfInBounds_toArray, List.set_cons_zero, List.set_cons_succ]
  refine wpAnyH_take (i := 8) (oi := ⟨some 24, _, _, _, _, _⟩) (v := ?_) rfl (by kernel_rfl) (by kernel_rfl) (by kernel_rfl) (fun _ _ _ h => h) (Or.inl ⟨by rfl, ?_⟩) hHeld ?_
  rotate_left
  · intro w hSw
    go_simp
    try with_reducible rfl
  try simp only [Act.put, List.setIfInBounds_toArray, List.set_cons_zero, List.set_cons_succ]
  refine wpAnyH_take (i := 11) (oi := ⟨some 27, _, _, _, _, _⟩) (v := ?_) rfl (by kernel_rfl) (by kernel_rfl) (by kernel_rfl) (fun _ _ _ h => h) (Or.inl ⟨by rfl, ?_⟩) hHeld ?_
  rotate_left
  · intro w hSw
    go_simp
    try with_reducible rfl
  try simp only [Act.put, List.setIfInBounds_toArray, List.set_cons_zero, List.set_cons_succ]
  refine wpAnyH_take (i := 12) (oi := ⟨some 28, _, _, _, _, _⟩) (v := ?_) rfl (by kernel_rfl) (by kernel_rfl) (by kernel_rfl) (fun _ _ _ h => h) (Or.inl ⟨by rfl, ?_⟩) hHeld ?_
  rotate_left
  · intro w hSw
    go_simp
    try with_reducible rfl
  try simp only [Act.put, List.setIfInBounds_toArray, List.set_cons_zero, List.set_cons_succ]
  refine wpAnyH_ready (rs := [7]) (by kernel_rfl) (by simp) ?_
  refine AllReadyH.cons rfl (fun K hK => ?_) AllReadyH.nil
  go_simp
  refine hK.out _ _ (hHeld) (fun hHeld => ?_)
  clear hK K
  refine wpAnyH_ready (rs := [9]) (by kernel_rfl) (by simp) ?_
  refine AllReadyH.cons rfl (fun K hK => ?_) AllReadyH.nil
  go_simp
  refine hK.out _ _ (two_next hHeld ((Below.refl _ _).alloc (Nat.le_refl _) _)) (fun hHeld => ?_)
  clear hK K
  refine wpAnyH_ready (rs := [10]) (by kernel_rfl) (by simp) ?_
  refine AllReadyH.cons rfl (fun K hK => ?_) AllReadyH.nil
  go_simp
  go_wp2_with (go_at_call 51; go_must (refine (CA.out w.heap.size (w.alloc (.cells #[.int .i64 x, .int .i64 n] 2)).drew (new_c0 w _ _ _) (new_c1 w _ _ _)).mono ?_; rintro e w10 ⟨rfl, rfl⟩))
  refine hK.out _ _ (hHeld) (fun hHeld => ?_)
  clear hK K
  refine wpAnyH_take (i := 13) (oi := ⟨some 29, _, _, _, _, _⟩) (v := ?_) rfl (by kernel_rfl) (by kernel_rfl) (by kernel_rfl) (fun _ _ _ h => h) (Or.inl ⟨by rfl, ?_⟩) hHeld ?_
  rotate_left
  · intro w hSw
    go_simp
    try with_reducible rfl
  try simp only [Act.put, List.setIfInBounds_toArray, List.set_cons_zero, List.set_cons_succ]
  refine wpAnyH_ready (rs := [14]) (by kernel_rfl) (by simp) ?_
  refine AllReadyH.cons rfl (fun K hK => ?_) AllReadyH.nil
  go_simp
  refine hK.out _ _ (two_next ((Two.refl eb eb w).setCell (.inl rfl) _) (((Below.refl _ _).alloc (Nat.le_refl _) _).drew)) (fun hHeld => ?_)
  clear hK K
  refine wpAnyH_done (by kernel_rfl) ?_ _
  go_wp2
  go_end0
  exact ⟨rfl, ((Below.refl _ _).alloc (by simp [World.setCell]) _).drew⟩
end Go.Proofs.YtpanmfdbdgecaaaGreat.C

namespace Go.Proofs.YtpanmfdbdgecaaaGreat.C
open Go.RowKit
set_option linter.unusedVariables false
section
variable {w : World} {base b n c : Nat} {A : Option Addr} {L : List Value} {bad : Bool}
theorem CuAt.cells (h : CuAt w base b A n c L bad) : w.cell? ⟨b, 0, none⟩ = some (.slice A n c) ∧ w.cell? ⟨b, 1, none⟩ = some (.bool bad) ∧ w.frozen? ⟨b, 0, none⟩ = false ∧ w.frozen? ⟨b, 1, none⟩ = false := by
  rw [cell_of_row _ _ _ _ _ _ h.ptr, cell_of_row _ _ _ _ _ _ h.ptr]
  exact ⟨rfl, rfl, frozen_of_row _ _ _ _ _ h.ptr, frozen_of_row _ _ _ _ _ h.ptr⟩
theorem cursor_bad (h : CuAt w base b A n c L bad) : Calls Tryz.prog 109 #[.pointer (some ⟨b, 0, none⟩)] w fun e w' => e = .returned (.bool bad) ∧ w' = w := by
  obtain ⟨c0, c1, _, _⟩ := h.cells
  clear h
  go_enter Tryz.func109, Tryz.ntmps109
  go_wp2
  go_ret
  exact ⟨rfl, rfl⟩
/-- Beyond the end: it is bad from then on. -/
theorem cursor_raw_no (m : Nat) (h : CuAt w base b A n c L bad) (hn : n ≤ 65536) (hm : n < m ∨ bad = true) (hm2 : m ≤ 65536) :
    Calls Tryz.prog 107 #[.pointer (some ⟨b, 0, none⟩), .int .i64 (m : Nat)] w fun e w' => e = .returned (.slice none 0 0) ∧ (∃ bad', w'.heap[b]? = some (.cells #[.slice A n c, .bool bad'] 317 (0, 0)) ∧ bad' = true) ∧ Two b b w w' := by
  obtain ⟨c0, c1, f0, f1⟩ := h.cells
  have k1 := heap_setCell_same _ _ 1 _ _ (.bool true) h.ptr
  have HP := Lib.hid h.ptr
  have K1 := Lib.hid k1
  have t1 : Two b b w (w.setCell ⟨b, 1, none⟩ (.bool true)) := Two.setCell (g := b) (h := b) (x := ⟨b, 1, none⟩) (Two.refl b b w) (.inl rfl) _
  clear h k1
  by_cases hlt : n < m
  · have hd : decide ((n : Int) < (m : Int)) = true := decide_eq_true (by omega)
    have hlI : (n : Int) < (m : Int) := by omega
    clear hm
    go_enter Tryz.func107, Tryz.ntmps107
    go_wp2
    go_ret
    exact ⟨rfl, ⟨true, K1.out, rfl⟩, t1⟩
  · have hb : bad = true := by rcases hm with h | h; exact absurd h hlt; exact h
    subst hb
    have hd : decide ((n : Int) < (m : Int)) = false := decide_eq_false (by omega)
    have hlI : (m : Int) ≤ (n : Int) := by omega
    clear hm
    go_enter Tryz.func107, Tryz.ntmps107
    go_wp2
    go_ret
    exact ⟨rfl, ⟨true, HP.out, rfl⟩, Two.refl b b w⟩
end
end Go.Proofs.YtpanmfdbdgecaaaGreat.C

namespace Go.Proofs.YtpanmfdbdgecaaaGreat.C
open Go.RowKit
set_option linter.unusedVariables false
/-- Bytes as they lie. -/
def bv (B : List Nat) : List Value := B.map fun n => .int .u8 (n : Nat)
theorem bv_one {B : List Nat} : ∀ u ∈ bv B, u.oneCell' = true := fun u hu => by obtain ⟨n, _, rfl⟩ := List.mem_map.1 hu; rfl
theorem bv_len {B : List Nat} : (bv B).length = B.length := List.length_map _
section
variable {w : World} {base b n c : Nat} {A : Option Addr} {L : List Value} {bad : Bool}
theorem cursor_number_no (h : CuAt w base b A n c L bad) (hn : n ≤ 65536) (hm : n < 2 ∨ bad = true) :
    Calls Tryz.prog 159 #[.pointer (some ⟨b, 0, none⟩), .int .i64 2] w fun e w' => e = .returned (.int .u64 0) ∧ CuAt w' base b A n c L true ∧ Two b b w w' := by
  have C := Lib.hid (cursor_raw_no 2 h hn hm (by omega))
  have HH := Lib.hid h
  clear h hm
  go_enter Tryz.func159, Tryz.ntmps159
  go_wp2_with fail
  refine C.out.mono ?_
  rintro e w1 ⟨rfl, hp, ht⟩
  have HP := Lib.hid hp
  have HT := Lib.hid ht
  clear hp ht C
  go_wp2_with fail
  go_loopw [5, 12] (fun s t wr => s = .int .u64 0 ∧ t = .int .i64 0 ∧ wr = w1) (fun _ _ _ => 0)
  case atStart => exact ⟨rfl, rfl, rfl⟩
  case round =>
    obtain ⟨rfl, rfl, rfl⟩ := hrel
    go_wp2
    go_ret
    obtain ⟨bad', hp, rfl⟩ := HP.out
    refine ⟨rfl, ⟨hp, HH.out.len, HH.out.one, fun hne => ?_⟩, HT.out⟩
    obtain ⟨g, o, h1, h2, h3, h4, h5, h6⟩ := HH.out.row hne
    exact ⟨g, o, h1, h2, Nat.lt_of_lt_of_le h3 HT.out.size, h4, h5, fun j u hu => by rw [World.cell?_of_block (HT.out.block g h3 h5 h5)]; exact h6 j u hu⟩
theorem cursor_u16_no (h : CuAt w base b A n c L bad) (hn : n ≤ 65536) (hm : n < 2 ∨ bad = true) :
    Calls Tryz.prog 108 #[.pointer (some ⟨b, 0, none⟩)] w fun e w' => e = .returned (.int .u16 0) ∧ CuAt w' base b A n c L true ∧ Two b b w w' := by
  have C := Lib.hid (cursor_number_no h hn hm)
  clear h hm
  go_enter Tryz.func108, Tryz.ntmps108
  go_wp2_with fail
  refine C.out.mono ?_
  rintro e w1 ⟨rfl, hp, ht⟩
  have HP := Lib.hid hp
  have HT := Lib.hid ht
  clear hp ht C
  go_wp2
  go_ret
  exact ⟨rfl, HP.out, HT.out⟩
end
end Go.Proofs.YtpanmfdbdgecaaaGreat.C

namespace Go.Proofs.YtpanmfdbdgecaaaGreat.C
open Go.RowKit
set_option linter.unusedVariables false
theorem cursor_raw_bad {w : World} {base b n c : Nat} {A : Option Addr} {L : List Value} {bad : Bool} (m : Nat) (h : CuAt w base b A n c L bad) (hn : n ≤ 65536) (hm : n < m ∨ bad = true) (hm2 : m ≤ 65536) :
    Calls Tryz.prog 107 #[.pointer (some ⟨b, 0, none⟩), .int .i64 (m : Nat)] w fun e w' => e = .returned (.slice none 0 0) ∧ CuAt w' base b A n c L true ∧ Two b b w w' := by
  refine (cursor_raw_no m h hn hm hm2).mono ?_
  rintro e w1 ⟨rfl, ⟨bad', hp, rfl⟩, ht⟩
  refine ⟨rfl, ⟨hp, h.len, h.one, fun hne => ?_⟩, ht⟩
  obtain ⟨g, o, h1, h2, h3, h4, h5, h6⟩ := h.row hne
  exact ⟨g, o, h1, h2, Nat.lt_of_lt_of_le h3 ht.size, h4, h5, fun j u hu => by rw [World.cell?_of_block (ht.block g h3 h5 h5)]; exact h6 j u hu⟩
theorem two_below {w w1 w2 : World} {base b : Nat} (p : Below base w w1) (q : Two b b w1 w2) (hb : base ≤ b) (hs : base ≤ w1.heap.size) : Below base w w2 :=
  p.trans ⟨q.os, q.tape, q.output, q.size, fun k hk => q.block k (by omega) (by omega) (by omega)⟩
theorem cells_of_row {w : World} {b : Nat} {C : Array Value} {t : TypeId} {fr : Nat × Nat} (h : w.heap[b]? = some (.cells C t fr)) (j : Nat) (u : Value) (hu : C[j]? = some u) : w.cell? ⟨b, j, none⟩ = some u := by rw [cell_of_row _ _ _ _ _ _ h]; exact hu
/-- A result that lies in a box, and one that doesn't. -/
theorem results_row_tmp {P : Program} {fn : Func} {p u : Tmp} {ty : TypeId} (h : fn.results = #[.cell p ty, .tmp u]) (tmps : Array Value) (w : World) (g : Nat) (t : TypeId) (cs : Array Value) (fr : Nat × Nat) (d : TypeDesc)
    (hp : tmps.getD p undef = .pointer (some ⟨g, 0, none⟩)) (hg : w.heap[g]? = some (.cells cs t fr))
    (hu : P.underlying ty = some d) (hd : (match d with | .struct _ | .array _ _ => true | _ => false) = true) (hi : (P.info? ty).map (·.size) = some cs.size) :
    (results fn tmps).run P w = .ok (.tuple #[.agg cs, tmps.getD u undef]) w := by
  rw [results_cell_tmp h, hp]
  simp [asAddr, run_loadVar_row w g t ty cs fr d hg hu hd hi]
theorem box2 {w : World} {b : Nat} {u0 u1 : Value} {t : TypeId} (h : w.heap[b]? = some (.cells #[u0, u1] t (0, 0))) (v0 v1 : Value) : ((w.setCell ⟨b, 0, none⟩ v0).setCell ⟨b, 1, none⟩ v1).heap[b]? = some (.cells #[v0, v1] t (0, 0)) :=
  heap_setCell_same _ _ 1 _ _ v1 (heap_setCell_same _ _ 0 _ _ v0 h)
set_option maxRecDepth 100000 in
theorem ether_nil (w : World) : Calls Tryz.prog 52 #[.slice none 0 0] w fun e w' => e = .returned (.tuple #[.agg #[.bool false, .int .i64 0], .int .i64 1]) ∧ Below w.heap.size w w' := by
  go_enter Tryz.func52, Tryz.ntmps52
  go_upto_region 1 with (fail)
  have b0 : Below w.heap.size w (w.alloc (.cells #[.bool false, .int .i64 0] 165)) := (Below.refl _ _).alloc (Nat.le_refl _) _
  have x0 := Go.heap_alloc_new w (.cells #[.bool false, .int .i64 0] 165)
  have s0 : w.heap.size < (w.alloc (.cells #[.bool false, .int .i64 0] 165)).heap.size := by simp
  generalize hg : w.heap.size = p0 at *
  generalize w.alloc (.cells #[.bool false, .int .i64 0] 165) = w0 at *
  have X0 := Lib.hid x0
  have B0 := Lib.hid b0
  have HG := Lib.hid hg
  clear x0 b0 hg
  have C := Lib.hid (cursor_new_nil w0)
  go_wp2_with fail
  refine C.out.mono ?_
  rintro e w1 ⟨rfl, hc, hb⟩
  have B1 := Lib.hid (B0.out.trans (hb.mono (Nat.le_of_lt s0)))
  have X1 := Lib.hid (keep_block hb X0.out)
  have hs1 := hb.size
  generalize w0.heap.size = cb at *
  clear hb C X0 B0
  have CR := Lib.hid (cursor_raw_bad 12 hc (by omega) (.inl (by omega)) (by omega))
  clear hc
  go_wp2_with fail
  refine CR.out.mono ?_
  rintro e w2 ⟨rfl, hc, ht⟩
  have B2 := Lib.hid (two_below B1.out ht (by omega) (by omega))
  have X2 : Hid (w2.heap[p0]? = _) := Lib.hid ((ht.block p0 (by omega) (by omega) (by omega)).trans X1.out)
  have hs2 := ht.size
  clear ht CR X1 B1
  have CU := Lib.hid (cursor_u16_no hc (by omega) (.inr rfl))
  clear hc
  go_wp2_with fail
  refine CU.out.mono ?_
  rintro e w3 ⟨rfl, hc, ht⟩
  have B3 := Lib.hid (two_below B2.out ht (by omega) (by omega))
  have X3 : Hid (w3.heap[p0]? = _) := Lib.hid ((ht.block p0 (by omega) (by omega) (by omega)).trans X2.out)
  have CB := Lib.hid (cursor_bad hc)
  have hs3 := ht.size
  clear ht hc CU X2 B2
  go_wp2_with fail
  go_loopw [3, 5, 6] (fun r s t wr => r = .int .i64 0 ∧ s = .int .u16 0 ∧ t = .int .i64 0 ∧ wr = w3) (fun _ _ _ _ => 0)
  case atStart => exact ⟨rfl, rfl, rfl, rfl⟩
  case round =>
    obtain ⟨rfl, rfl, rfl, rfl⟩ := hrel
    go_wp2_with fail
    refine CB.out.mono ?_
    rintro e w4 ⟨rfl, rfl⟩
    have k0 := cells_of_row X3.out 0 _ rfl
    have k1 := cells_of_row X3.out 1 _ rfl
    have f0 := frozen_of_row _ _ 0 _ _ X3.out
    have f1 := frozen_of_row _ _ 1 _ _ X3.out
    have B4 := Lib.hid ((B3.out.setCell (p := ⟨p0, 0, none⟩) (Nat.le_refl _) (.bool false)).setCell (p := ⟨p0, 1, none⟩) (Nat.le_refl _) (.int .i64 0))
    have HX4 := Lib.hid (box2 X3.out (.bool false) (.int .i64 0))
    clear X3
    go_wp2
    refine bodyPost_ret (results_row_tmp rfl _ _ _ _ _ _ _ rfl HX4.out Tryz.underlying165 rfl rfl) rfl ?_
    exact ⟨rfl, by rw [HG.out]; exact B4.out⟩
end Go.Proofs.YtpanmfdbdgecaaaGreat.C

namespace Go.Proofs.YtpanmfdbdgecaaaGreat.C
open Go.RowKit
set_option linter.unusedVariables false
end Go.Proofs.YtpanmfdbdgecaaaGreat.C
