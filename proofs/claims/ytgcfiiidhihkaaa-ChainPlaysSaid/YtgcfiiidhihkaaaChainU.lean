/- The walk of the reference's Push (chains). -/
import Derived.Test.YtgcfiiidhihkaaaChainT
import Derived.Deep.Cut
namespace Go.Proofs.Ytgcfiiidhihkaaa.C
open Go.RowKit
set_option linter.unusedVariables false
theorem Two.ofBelow {x y : Nat} {a b : World} (p : Below a.heap.size a b) : Two x y a b := ⟨p.os, p.tape, p.output, p.size, fun k hk _ _ => p.block k hk⟩
theorem Two.next {x y : Nat} {a b c : World} (p : Two x y a b) (q : Below b.heap.size b c) : Two x y a c := p.trans (Two.ofBelow q)
theorem Two.grown {x y : Nat} {a b c : World} {row : Option Nat} (p : Two x y a b) (hg : b.grownBy c row) (hrow : ∀ q, row = some q → a.heap.size ≤ q) : Two x y a c :=
  ⟨hg.os.trans p.os, hg.tape.trans p.tape, hg.output.trans p.output, Nat.le_trans p.size hg.size, fun k hk h1 h2 => (hg.block k (Nat.lt_of_lt_of_le hk p.size) (fun e => by have := hrow k e.symm; omega)).trans (p.block k hk h1 h2)⟩
theorem Two.keepc {x y : Nat} {a b : World} (p : Two x y a b) {c : Addr} {v : Value} (hv : a.cell? c = some v) (h1 : c.block ≠ x) (h2 : c.block ≠ y) : b.cell? c = some v := p.cell hv h1 h2
theorem results_row_tmp {P : Program} {fn : Func} {p u : Tmp} {ty : TypeId} (h : fn.results = #[.cell p ty, .tmp u]) (tmps : Array Value) (w : World) (g : Nat) (t : TypeId) (cs : Array Value) (fr : Nat × Nat) (d : TypeDesc)
    (hp : tmps.getD p undef = .pointer (some ⟨g, 0, none⟩)) (hg : w.heap[g]? = some (.cells cs t fr))
    (hu : P.underlying ty = some d) (hd : (match d with | .struct _ | .array _ _ => true | _ => false) = true) (hi : (P.info? ty).map (·.size) = some cs.size) :
    (results fn tmps).run P w = .ok (.tuple #[.agg cs, tmps.getD u undef]) w := by
  rw [results_cell_tmp h, hp]
  simp [asAddr, run_loadVar_row w g t ty cs fr d hg hu hd hi]
@[reducible] def zero57 : Obj := .cells #[.slice none 0 0, .int .i64 0] 57
@[reducible] def box57 (g cap n m : Nat) : Obj := .cells #[.slice (some ⟨g, 0, none⟩) n cap, .int .i64 (m : Nat)] 57
theorem two_boxes {w : World} {base g cap m : Nat} {S : List Value} {Q : List (List Nat)} (h : CR w base g cap S Q) :
    CK w w.heap.size base g cap m S Q ((w.alloc (box57 g cap Q.length m)).alloc zero57) ∧ ((w.alloc (box57 g cap Q.length m)).alloc zero57).heap[w.heap.size + 1]? = some (.cells #[.slice none 0 0, .int .i64 0] 57 (0, 0)) := by
  refine ⟨(CK.new (m := m) h).next ((Below.refl _ _).alloc (Nat.le_refl _) _), ?_⟩
  have := Go.heap_alloc_new (w.alloc (box57 g cap Q.length m)) zero57
  rwa [show (w.alloc (box57 g cap Q.length m)).heap.size = w.heap.size + 1 by simp] at this
theorem box_facts2 {w : World} {b : Nat} {u0 u1 : Value} {t : TypeId} (h : w.heap[b]? = some (.cells #[u0, u1] t (0, 0))) :
    w.cell? ⟨b, 0, none⟩ = some u0 ∧ w.cell? ⟨b, 1, none⟩ = some u1 ∧ w.frozen? ⟨b, 0, none⟩ = false ∧ w.frozen? ⟨b, 1, none⟩ = false :=
  ⟨by rw [cell_of_row _ _ _ _ _ _ h]; rfl, by rw [cell_of_row _ _ _ _ _ _ h]; rfl, frozen_of_row _ _ _ _ _ h, frozen_of_row _ _ _ _ _ h⟩
theorem keepB {w w' : World} {b : Nat} {o : Obj} (h : Below w.heap.size w w') (hb : w.heap[b]? = some o) : w'.heap[b]? = some o :=
  (h.block b (Array.getElem?_eq_some_iff.1 hb).1).trans hb
/-- A value stored as the result. -/
theorem CR.result {w0 w : World} {base g cap b : Nat} {S : List Value} {Q : List (List Nat)} {u0 u1 : Value} (h : CR w base g cap S Q) (hb : w.heap[b]? = some (.cells #[u0, u1] 57 (0, 0))) (hB : Below w0.heap.size w0 w) (hb0 : w0.heap.size ≤ b) (v0 v1 : Value) :
    CR ((w.setCell ⟨b, 0, none⟩ v0).setCell ⟨b, 1, none⟩ v1) base g cap S Q ∧ Below w0.heap.size w0 ((w.setCell ⟨b, 0, none⟩ v0).setCell ⟨b, 1, none⟩ v1) := by
  have hb1 : (w.setCell ⟨b, 0, none⟩ v0).heap[b]? = some (.cells #[v0, u1] 57 (0, 0)) := by
    have := heap_setCell_same _ _ 0 _ _ v0 hb
    simpa using this
  exact ⟨(h.box (j := 0) hb v0).box (j := 1) hb1 v1, (hB.setCell hb0 _).setCell hb0 _⟩
set_option maxRecDepth 100000 in
set_option maxHeartbeats 1000000 in
theorem rc_push_no (base g cap m : Nat) (l p : Int) (S : List Value) (Q : List (List Nat)) (w : World) (h : CR w base g cap S Q) (hQ : Q.length ≤ 129) (hm : m ≤ 4096) (hq4 : ∀ q ∈ Q, q.length ≤ 4096)
    (hc : l < 0 ∨ (0 ≤ l ∧ (Q.length : Int) ≤ l) ∨ (0 ≤ l ∧ l < (Q.length : Int) ∧ p < 0) ∨ (0 ≤ l ∧ l < (Q.length : Int) ∧ 0 ≤ p ∧ (m : Int) ≤ p) ∨ (0 ≤ l ∧ l < (Q.length : Int) ∧ 0 ≤ p ∧ p < (m : Int) ∧ 0 ≤ lineQ Q p)) :
    Calls Try.prog 35 #[cv g cap Q.length m, .int .i64 l, .int .i64 p] w fun e w' => ∃ g' cap' S', e = .returned (.tuple #[cv g' cap' Q.length m, .bool false]) ∧ CR w' base g' cap' S' Q ∧ Below w.heap.size w w' := by
  have CL := Lib.hid (fun w' hR => rc_line base g cap m p S Q w' hR hQ hq4)
  obtain ⟨hK, hb2⟩ := two_boxes (m := m) h
  clear h hq4
  rcases hc with hc | ⟨hc0, hc⟩ | ⟨hc0, hc1, hc⟩ | ⟨hc0, hc1, hc2, hc⟩ | ⟨hc0, hc1, hc2, hc3, hc⟩
  iterate 4
    · have HK := Lib.hid hK
      have HB2 := Lib.hid hb2
      generalize hn : Q.length = n at *
      have HN := Lib.hid hn
      clear hn hK hb2
      go_enter Try.func35, Try.ntmps35
      go_upto_region 1 with (fail)
      generalize (w.alloc (.cells #[.slice (some ⟨g, 0, none⟩) n cap, .int .i64 (m : Nat)] 57)).alloc (.cells #[.slice none 0 0, .int .i64 0] 57) = wA at *
      have k0 := HK.out.c0
      rw [HN.out] at k0
      have k1 := HK.out.c1
      obtain ⟨c0, c1, f0, f1⟩ := box_facts2 HB2.out
      go_wp2_with fail
      (try simp only [Exit.inBlock, Exit.then])
      refine bodyPost_ret (results_row_tmp rfl _ _ _ _ _ _ _ rfl (box2 HB2.out _ _) Try.underlying57 rfl rfl) rfl ?_
      exact ⟨g, cap, S, rfl, HK.out.row.result HB2.out HK.out.below (by omega) _ _⟩
  · have HK := Lib.hid hK
    have HB2 := Lib.hid hb2
    have hlq : decide (0 ≤ lineQ Q p) = true := decide_eq_true hc
    generalize lineQ Q p = lq at *
    generalize hn : Q.length = n at *
    have HN := Lib.hid hn
    clear hn hK hb2
    go_enter Try.func35, Try.ntmps35
    go_upto_region 1 with (fail)
    generalize (w.alloc (.cells #[.slice (some ⟨g, 0, none⟩) n cap, .int .i64 (m : Nat)] 57)).alloc (.cells #[.slice none 0 0, .int .i64 0] 57) = wA at *
    have k0 := HK.out.c0
    rw [HN.out] at k0
    have k1 := HK.out.c1
    go_wp2_with fail
    refine (CL.out _ HK.out.row).mono ?_
    rintro e w1 ⟨rfl, hB⟩
    have hK1 := HK.out.next hB
    have hb1 := keepB hB HB2.out
    clear k0 k1 HK HB2 CL hB
    have k0 := hK1.c0
    rw [HN.out] at k0
    have k1 := hK1.c1
    obtain ⟨c0, c1, f0, f1⟩ := box_facts2 hb1
    have HK1 := Lib.hid hK1
    have HB1 := Lib.hid hb1
    clear hK1 hb1
    go_wp2_with fail
    (try simp only [Exit.inBlock, Exit.then])
    refine bodyPost_ret (results_row_tmp rfl _ _ _ _ _ _ _ rfl (box2 HB1.out _ _) Try.underlying57 rfl rfl) rfl ?_
    exact ⟨g, cap, S, rfl, HK1.out.row.result HB1.out HK1.out.below (by omega) _ _⟩
end Go.Proofs.Ytgcfiiidhihkaaa.C
