/- Stores in memory: what turns, what belongs together; the walks of has, Push. -/
import Derived.Test.YtgcfiiidhihkaaaStoP
import Derived.Test.YtgcfiiidhihkaaaChainQ
import Derived.Deep.DeepCutAuto
import Derived.RegionTactic
namespace Go.Proofs.Ytgcfiiidhihkaaa.C
open Go.RowKit
set_option linter.unusedVariables false
/-- At most the blocks of a list have turned; new ones may have come. -/
structure Amg (bs : List Nat) (w w' : World) : Prop where
  os : w'.os = w.os
  tape : w'.tape = w.tape
  output : w'.output = w.output
  size : w.heap.size ≤ w'.heap.size
  block : ∀ k, k < w.heap.size → k ∉ bs → w'.heap[k]? = w.heap[k]?
theorem Amg.refl (bs : List Nat) (w : World) : Amg bs w w := ⟨rfl, rfl, rfl, Nat.le_refl _, fun _ _ _ => rfl⟩
theorem Amg.trans {bs : List Nat} {a b c : World} (p : Amg bs a b) (q : Amg bs b c) : Amg bs a c :=
  ⟨q.os.trans p.os, q.tape.trans p.tape, q.output.trans p.output, Nat.le_trans p.size q.size, fun k hk h => (q.block k (Nat.lt_of_lt_of_le hk p.size) h).trans (p.block k hk h)⟩
theorem Amg.of_two {bs : List Nat} {g h : Nat} {a b : World} (p : Two g h a b) (hg : g ∈ bs) (hh : h ∈ bs) : Amg bs a b :=
  ⟨p.os, p.tape, p.output, p.size, fun k hk hn => p.block k hk (fun e => hn (e ▸ hg)) (fun e => hn (e ▸ hh))⟩
theorem Amg.of_below {bs : List Nat} {a b : World} (p : Below a.heap.size a b) : Amg bs a b := ⟨p.os, p.tape, p.output, p.size, fun k hk _ => p.block k hk⟩
theorem Amg.sub {bs cs : List Nat} {a b : World} (p : Amg bs a b) (h : ∀ x ∈ bs, x ∈ cs) : Amg cs a b :=
  ⟨p.os, p.tape, p.output, p.size, fun k hk hn => p.block k hk fun hm => hn (h k hm)⟩
theorem Amg.below {bs : List Nat} {B : Nat} {a b : World} (p : Amg bs a b) (hB : B ≤ a.heap.size) (h : ∀ x ∈ bs, B ≤ x) : Below B a b :=
  ⟨p.os, p.tape, p.output, p.size, fun k hk => p.block k (by omega) fun hm => by have := h k hm; omega⟩
theorem Amg.keep {bs : List Nat} {a b : World} (p : Amg bs a b) {k : Nat} {o : Obj} (h : a.heap[k]? = some o) (hn : k ∉ bs) : b.heap[k]? = some o :=
  (p.block k (Array.getElem?_eq_some_iff.1 h).1 hn).trans h
theorem Amg.drewN {bs : List Nat} {a b : World} (p : Amg bs a b) (n : Nat) : Amg bs a (b.drewN n) := ⟨p.os, p.tape, p.output, p.size, p.block⟩
theorem chain_two {w w' : World} {pb b1 b2 m g k : Nat} {Q : List (List Nat)} (h : CH.Chain w pb b1 b2 Q m) (p : Two g k w w') (h1 : pb ≠ g ∧ pb ≠ k) (h2 : b1 ≠ g ∧ b1 ≠ k) (h3 : b2 ≠ g ∧ b2 ≠ k) : CH.Chain w' pb b1 b2 Q m := by
  obtain ⟨ln, lk, a1, a2⟩ := h
  exact ⟨ln, lk, a1.two p h1.1 h1.2 h2.1 h2.2 h3.1 h3.2, a2⟩
/-- Where a store lies. -/
structure Adr where
  sb : Nat
  ps : Nat
  pr : Nat
  pb : Nat
  b1 : Nat
  b2 : Nat
  bb : Nat
def Adr.bs (a : Adr) : List Nat := [a.ps, a.pr, a.b1, a.b2, a.bb]
structure StAt (w : World) (a : Adr) (L : List (List (Array Value))) (R : Nat) (A : List (Option (Array Value))) (fl : List Nat) (Q : List (List Nat)) : Prop where
  ptr : w.heap[a.sb]? = some (.cells #[.pointer (some ⟨a.ps, 0, none⟩), .pointer (some ⟨a.pb, 0, none⟩), .slice (some ⟨a.bb, 0, none⟩) L.length L.length] 127 (0, 0))
  slab : PS.Slab w a.ps a.pr A fl
  chain : CH.Chain w a.pb a.b1 a.b2 Q R
  bytes : w.heap[a.bb]? = some (.cells (bytesV L).toArray 2 (0, 0))
  lk : Linked A Q L fl R
/-- A store in memory, told by its lists of packets. -/
def Sto (w : World) (a : Adr) (L : List (List (Array Value))) (R : Nat) : Prop := ∃ A fl Q, StAt w a L R A fl Q
theorem ne_ty {w : World} {a b : Nat} {x y : Array Value} {s t : TypeId} {f g : Nat × Nat} (h1 : w.heap[a]? = some (.cells x s f)) (h2 : w.heap[b]? = some (.cells y t g)) (h : s ≠ t) : a ≠ b := by
  rintro rfl
  have := h1.symm.trans h2
  injection this with this
  injection this with _ h2
  exact h h2
section
variable {w w' : World} {a : Adr} {L : List (List (Array Value))} {R : Nat} {A : List (Option (Array Value))} {fl : List Nat} {Q : List (List Nat)}
theorem StAt.ne (h : StAt w a L R A fl Q) : (a.sb ≠ a.ps ∧ a.sb ≠ a.pr ∧ a.sb ≠ a.pb ∧ a.sb ≠ a.b1 ∧ a.sb ≠ a.b2 ∧ a.sb ≠ a.bb) ∧ (a.ps ≠ a.pr ∧ a.ps ≠ a.pb ∧ a.ps ≠ a.b1 ∧ a.ps ≠ a.b2 ∧ a.ps ≠ a.bb) ∧ (a.pr ≠ a.pb ∧ a.pr ≠ a.b1 ∧ a.pr ≠ a.b2 ∧ a.pr ≠ a.bb) ∧ (a.pb ≠ a.b1 ∧ a.pb ≠ a.b2 ∧ a.pb ≠ a.bb) ∧ a.b1 ≠ a.b2 ∧ a.b1 ≠ a.bb ∧ a.b2 ≠ a.bb := by
  obtain ⟨_, _, l, hS, _⟩ := h.slab
  obtain ⟨ln, lk, hC, _⟩ := h.chain
  refine ⟨⟨ne_ty h.ptr hS.ptr (by decide), ne_ty h.ptr hS.row (by decide), ne_ty h.ptr hC.ptr (by decide), ne_ty h.ptr hC.r1 (by decide), ne_ty h.ptr hC.r2 (by decide), ne_ty h.ptr h.bytes (by decide)⟩,
    ⟨ne_ty hS.ptr hS.row (by decide), ne_ty hS.ptr hC.ptr (by decide), ne_ty hS.ptr hC.r1 (by decide), ne_ty hS.ptr hC.r2 (by decide), ne_ty hS.ptr h.bytes (by decide)⟩,
    ⟨ne_ty hS.row hC.ptr (by decide), ne_ty hS.row hC.r1 (by decide), ne_ty hS.row hC.r2 (by decide), ne_ty hS.row h.bytes (by decide)⟩,
    ⟨ne_ty hC.ptr hC.r1 (by decide), ne_ty hC.ptr hC.r2 (by decide), ne_ty hC.ptr h.bytes (by decide)⟩, ne_ty hC.r1 hC.r2 (by decide), ne_ty hC.r1 h.bytes (by decide), ne_ty hC.r2 h.bytes (by decide)⟩
theorem StAt.lt (h : StAt w a L R A fl Q) : a.sb < w.heap.size ∧ a.ps < w.heap.size ∧ a.pr < w.heap.size ∧ a.pb < w.heap.size ∧ a.b1 < w.heap.size ∧ a.b2 < w.heap.size ∧ a.bb < w.heap.size := by
  obtain ⟨_, _, l, hS, _⟩ := h.slab
  obtain ⟨ln, lk, hC, _⟩ := h.chain
  exact ⟨(Array.getElem?_eq_some_iff.1 h.ptr).1, (Array.getElem?_eq_some_iff.1 hS.ptr).1, (Array.getElem?_eq_some_iff.1 hS.row).1, (Array.getElem?_eq_some_iff.1 hC.ptr).1, (Array.getElem?_eq_some_iff.1 hC.r1).1, (Array.getElem?_eq_some_iff.1 hC.r2).1, (Array.getElem?_eq_some_iff.1 h.bytes).1⟩
theorem StAt.below (h : StAt w a L R A fl Q) (p : Below w.heap.size w w') : StAt w' a L R A fl Q := ⟨keep_block p h.ptr, h.slab.below p, h.chain.below p, keep_block p h.bytes, h.lk⟩
theorem StAt.c0 (h : StAt w a L R A fl Q) : w.cell? ⟨a.sb, 0, none⟩ = some (.pointer (some ⟨a.ps, 0, none⟩)) := by rw [cell_of_row _ _ _ _ _ _ h.ptr]; rfl
theorem StAt.c1 (h : StAt w a L R A fl Q) : w.cell? ⟨a.sb, 1, none⟩ = some (.pointer (some ⟨a.pb, 0, none⟩)) := by rw [cell_of_row _ _ _ _ _ _ h.ptr]; rfl
theorem StAt.c2 (h : StAt w a L R A fl Q) : w.cell? ⟨a.sb, 2, none⟩ = some (.slice (some ⟨a.bb, 0, none⟩) L.length L.length) := by rw [cell_of_row _ _ _ _ _ _ h.ptr]; rfl
theorem StAt.byte (h : StAt w a L R A fl Q) {c : Nat} {l : List (Array Value)} (hl : L[c]? = some l) : w.cell? ⟨a.bb, c, none⟩ = some (.int .i64 (sumL l)) := by
  rw [cell_of_row _ _ _ _ _ _ h.bytes, List.getElem?_toArray]
  exact bytesV_at hl
theorem StAt.len (h : StAt w a L R A fl Q) : L.length ≤ 129 ∧ R ≤ 4096 ∧ total L ≤ R := by
  have h1 := h.chain.cut_length
  have h2 := h.lk.lenQ
  have h3 := h.lk.cnt
  omega
theorem Sto.below (h : Sto w a L R) (p : Below w.heap.size w w') : Sto w' a L R := by
  obtain ⟨A, fl, Q, h⟩ := h
  exact ⟨A, fl, Q, h.below p⟩
theorem Sto.drewN (h : Sto w a L R) (n : Nat) : Sto (w.drewN n) a L R := h.below (below_drewN (Below.refl _ _) n)
/-- The bytes of a class are stored. -/
theorem bytes_store (h : w.heap[a.bb]? = some (.cells (bytesV L).toArray 2 (0, 0))) {c : Nat} (l : List (Array Value)) : (w.setCell ⟨a.bb, c, none⟩ (.int .i64 (sumL l))).heap[a.bb]? = some (.cells (bytesV (L.set c l)).toArray 2 (0, 0)) := by
  rw [heap_setCell_same _ _ _ _ _ _ h, bytesV_set]
  simp
end
theorem has_st_nil (c : Int) (w : World) : Calls Try.prog 63 #[.pointer none, .int .i64 c] w fun e w' => e = .returned (.bool false) ∧ w' = w := by
  go_enter Try.func63, Try.ntmps63
  go_wp2
  go_ret
  exact ⟨rfl, rfl⟩
theorem has_st (a : Adr) (c : Int) (n : Nat) (w : World) (h : w.cell? ⟨a.sb, 2, none⟩ = some (.slice (some ⟨a.bb, 0, none⟩) n n)) (hn : n ≤ 65536) :
    Calls Try.prog 63 #[.pointer (some ⟨a.sb, 0, none⟩), .int .i64 c] w fun e w' => e = .returned (.bool (decide (0 ≤ c ∧ c < n))) ∧ w' = w := by
  by_cases h0 : c < 0
  · rw [decide_eq_false (show ¬ (0 ≤ c ∧ c < n) by omega)]
    go_enter Try.func63, Try.ntmps63
    go_wp2
    go_ret
    exact ⟨rfl, rfl⟩
  · have h0' : 0 ≤ c := by omega
    by_cases h1 : c < n
    · rw [decide_eq_true (show (0 ≤ c ∧ c < n) from ⟨h0', h1⟩)]
      have hd : decide (c < (n : Int)) = true := decide_eq_true h1
      go_enter Try.func63, Try.ntmps63
      go_wp2
      go_ret
      exact ⟨rfl, rfl⟩
    · rw [decide_eq_false (show ¬ (0 ≤ c ∧ c < n) by omega)]
      have hd : decide (c < (n : Int)) = false := decide_eq_false h1
      go_enter Try.func63, Try.ntmps63
      go_wp2
      go_ret
      exact ⟨rfl, rfl⟩
section
variable {w : World} {a : Adr} {L : List (List (Array Value))} {R : Nat}
set_option maxRecDepth 100000 in
theorem push_nil (c : Int) (x : Array Value) (w : World) : Calls Try.prog 43 #[.pointer none, .int .i64 c, .agg x] w fun e w' => e = .returned (.bool false) ∧ Below w.heap.size w w' := by
  have C := Lib.hid (has_st_nil c)
  go_enter Try.func43, Try.ntmps43
  go_upto_region 1 with ((with_reducible refine arm_box 5 2 79 x ?_ ?_); rfl; intro w1 HB HX HS)
  go_wp2_with fail
  refine (C.out _).mono ?_
  rintro e w2 ⟨rfl, rfl⟩
  go_wp2
  go_ret
  exact ⟨rfl, HB.out⟩
set_option maxRecDepth 100000 in
theorem push_no (c n : Int) (x : Array Value) (h : Sto w a L R) (hx : PkL x n) (hc : ¬ (0 ≤ c ∧ c < L.length) ∨ ((0 ≤ c ∧ c < L.length) ∧ (n < 1 ∨ (1 ≤ n ∧ 9216 < n)))) :
    Calls Try.prog 43 #[.pointer (some ⟨a.sb, 0, none⟩), .int .i64 c, .agg x] w fun e w' => e = .returned (.bool false) ∧ Below w.heap.size w w' := by
  obtain ⟨A, fl, Q, h⟩ := h
  obtain ⟨l1, l2, l3⟩ := h.len
  have C := Lib.hid (fun w' (p : Below w.heap.size w w') => has_st a c L.length w' (h.below p).c2 (by omega))
  have HL := Lib.hid hx.len
  clear h
  generalize L.length = m at *
  rcases hc with hc | ⟨hc, hn | ⟨hn0, hn⟩⟩
  · rw [decide_eq_false hc] at C
    clear hc
    go_enter Try.func43, Try.ntmps43
    go_upto_region 1 with ((with_reducible refine arm_box 5 2 79 x ?_ ?_); rfl; intro w1 HB HX HS)
    go_wp2_with fail
    refine (C.out _ HB.out).mono ?_
    rintro e w2 ⟨rfl, rfl⟩
    go_wp2
    go_ret
    exact ⟨rfl, HB.out⟩
  all_goals
    rw [decide_eq_true hc] at C
    clear hc
    go_enter Try.func43, Try.ntmps43
    go_upto_region 1 with ((with_reducible refine arm_box 5 2 79 x ?_ ?_); rfl; intro w1 HB HX HS)
    have hcell : w1.cell? ⟨w.heap.size, 45, none⟩ = some (.int .i64 n) := by rw [cell_of_row _ _ _ _ _ _ HX.out]; exact HL.out
    go_wp2_with fail
    refine (C.out _ HB.out).mono ?_
    rintro e w2 ⟨rfl, rfl⟩
    go_wp2
    go_ret
    exact ⟨rfl, HB.out⟩
end
end Go.Proofs.Ytgcfiiidhihkaaa.C
