/- ChainPlays: too many acts; numbers that may not be; where the law stands. -/
import Derived.Test.YtgcfiiidhihkaaaChainJ
import Derived.Test.YtgcfiiidhihkaaaAct
namespace Go.Proofs.Ytgcfiiidhihkaaa.C
open Go.RowKit
set_option linter.unusedVariables false
theorem cplays_many (n m : Int) (a : Option Addr) (len cap : Nat) (w : World) (h : 100 < len) (hm : len ≤ 9223372036854775807) :
    Calls Try.prog 9 #[.int .i64 n, .int .i64 m, .slice a len cap] w fun e w' => e = .returned (.bool true) ∧ Below w.heap.size w w' := by
  have Ha := Lib.hid CH.awake
  go_enter Try.func9, Try.ntmps9
  go_wp2_with fail
  refine (Ha.out _).mono ?_
  rintro e w1 ⟨rfl, hB1⟩
  go_wp2_with fail
  refine (Ha.out _).mono ?_
  rintro e w2 ⟨rfl, hB2⟩
  go_wp2
  go_ret
  exact ⟨rfl, hB1.trans (hB2.mono hB1.size)⟩
theorem chain_new_bad (n m : Int) (w : World) (h : n < 1 ∨ (1 ≤ n ∧ 129 < n) ∨ (1 ≤ n ∧ n ≤ 129 ∧ m < 1) ∨ (1 ≤ n ∧ n ≤ 129 ∧ 1 ≤ m ∧ 4096 < m)) :
    Calls Try.prog 27 #[.int .i64 n, .int .i64 m] w fun e w' => e = .returned (.tuple #[.pointer none, .int .i64 1]) ∧ w' = w := by
  rcases h with h | ⟨h0, h⟩ | ⟨h0, h1, h⟩ | ⟨h0, h1, h2, h⟩
  all_goals
    go_enter Try.func27, Try.ntmps27
    go_wp2
    go_ret2
    exact ⟨rfl, rfl⟩
set_option maxRecDepth 100000 in
set_option maxHeartbeats 1000000 in
theorem cplays_bad (n m : Int) (a : Option Addr) (len cap : Nat) (w : World) (hl : len ≤ 100) (h : n < 1 ∨ (1 ≤ n ∧ 129 < n) ∨ (1 ≤ n ∧ n ≤ 129 ∧ m < 1) ∨ (1 ≤ n ∧ n ≤ 129 ∧ 1 ≤ m ∧ 4096 < m)) :
    Calls Try.prog 9 #[.int .i64 n, .int .i64 m, .slice a len cap] w fun e w' => e = .returned (.bool true) ∧ Below w.heap.size w w' := by
  have Ha := Lib.hid CH.awake
  have hgt : decide (100 < len) = false := by simp; omega
  have CN := Lib.hid (fun w' => chain_new_bad n m w' h)
  have CF := Lib.hid CH.len_nil
  have CP := Lib.hid CH.push_nil
  rcases h with h | ⟨h0, h⟩ | ⟨h0, h1, h⟩ | ⟨h0, h1, h2, h⟩
  all_goals
    go_enter Try.func9, Try.ntmps9
    go_wp2_with fail
    refine (Ha.out _).mono ?_
    rintro e w1 ⟨rfl, hB1⟩
    go_wp2_with fail
    refine (CN.out _).mono ?_
    rintro e w2 ⟨rfl, rfl⟩
    go_wp2_with fail
    refine (CF.out _ _).mono ?_
    rintro e w2 ⟨rfl, rfl⟩
    go_wp2_with fail
    refine (CP.out _ _ _).mono ?_
    rintro e w2 ⟨rfl, rfl⟩
    go_wp2
    go_ret
    exact ⟨rfl, hB1⟩
theorem CH.Chain.two {w w' : World} {pb b1 b2 m g k : Nat} {Q : List (List Nat)} (h : CH.Chain w pb b1 b2 Q m) (p : Two g k w w') (h1 : pb ≠ g ∧ pb ≠ k) (h2 : b1 ≠ g ∧ b1 ≠ k) (h3 : b2 ≠ g ∧ b2 ≠ k) : CH.Chain w' pb b1 b2 Q m := by
  obtain ⟨ln, lk, a1, a2⟩ := h
  exact ⟨ln, lk, a1.two p h1.1 h1.2 h2.1 h2.2 h3.1 h3.2, a2⟩
theorem CH.Chain.lt {w : World} {pb b1 b2 m : Nat} {Q : List (List Nat)} (h : CH.Chain w pb b1 b2 Q m) : pb < w.heap.size ∧ b1 < w.heap.size ∧ b2 < w.heap.size := by
  obtain ⟨ln, lk, a1, a2⟩ := h
  exact ⟨(Array.getElem?_eq_some_iff.1 a1.ptr).1, (Array.getElem?_eq_some_iff.1 a1.r1).1, (Array.getElem?_eq_some_iff.1 a1.r2).1⟩
/-- Where ChainPlays stands: the program's lines, the reference's. -/
structure CP (w0 : World) (bw base g cap m : Nat) (S : List Value) (Q Q' : List (List Nat)) (pb b1 b2 : Nat) (w : World) : Prop where
  ch : CH.Chain w pb b1 b2 Q m
  row : CR w base g cap S Q'
  box : w.heap[bw]? = some (.cells #[.slice (some ⟨g, 0, none⟩) Q'.length cap, .int .i64 (m : Nat)] 57 (0, 0))
  below : Below w0.heap.size w0 w
  at0 : w0.heap.size ≤ b1 ∧ w0.heap.size ≤ b2 ∧ w0.heap.size ≤ bw
  at1 : pb < base ∧ b1 < base ∧ b2 < base ∧ base ≤ bw
section
variable {w0 w w' : World} {bw base g cap m pb b1 b2 : Nat} {S : List Value} {Q Q' Q1 : List (List Nat)}
theorem CP.next (h : CP w0 bw base g cap m S Q Q' pb b1 b2 w) (p : Below w.heap.size w w') : CP w0 bw base g cap m S Q Q' pb b1 b2 w' :=
  ⟨h.ch.below p, h.row.below p, keepB p h.box, h.below.trans (p.mono h.below.size), h.at0, h.at1⟩
theorem CP.drewN (h : CP w0 bw base g cap m S Q Q' pb b1 b2 w) (k : Nat) : CP w0 bw base g cap m S Q Q' pb b1 b2 (w.drewN k) := h.next (below_drewN (Below.refl _ _) k)
theorem CP.two (h : CP w0 bw base g cap m S Q Q' pb b1 b2 w) (hc : CH.Chain w' pb b1 b2 Q1 m) (p : Two b1 b2 w w') : CP w0 bw base g cap m S Q1 Q' pb b1 b2 w' := by
  obtain ⟨g1, g2, g3⟩ := h.at0
  obtain ⟨l0, l1, l2, l3⟩ := h.at1
  exact ⟨hc, h.row.two p l1 l2, (p.block bw (Array.getElem?_eq_some_iff.1 h.box).1 (by omega) (by omega)).trans h.box, h.below.trans (p.below h.below.size g1 g2), h.at0, h.at1⟩
theorem CP.cells {n : Nat} (h : CP w0 bw base g cap m S Q Q' pb b1 b2 w) (hn : Q'.length = n) : w.cell? ⟨bw, 0, none⟩ = some (.slice (some ⟨g, 0, none⟩) n cap) ∧ w.cell? ⟨bw, 1, none⟩ = some (.int .i64 (m : Nat)) ∧ w.frozen? ⟨bw, 0, none⟩ = false ∧ w.frozen? ⟨bw, 1, none⟩ = false := by
  subst hn
  exact box_facts2 h.box
theorem CP.store {g' cap' : Nat} {S' : List Value} (h : CP w0 bw base g cap m S Q Q' pb b1 b2 w) (hr : CR w base g' cap' S' Q1) :
    CP w0 bw base g' cap' m S' Q Q1 pb b1 b2 ((w.setCell ⟨bw, 0, none⟩ (.slice (some ⟨g', 0, none⟩) Q1.length cap')).setCell ⟨bw, 1, none⟩ (.int .i64 (m : Nat))) := by
  obtain ⟨g1, g2, g3⟩ := h.at0
  obtain ⟨l0, l1, l2, l3⟩ := h.at1
  have ht : Two bw bw w ((w.setCell ⟨bw, 0, none⟩ (.slice (some ⟨g', 0, none⟩) Q1.length cap')).setCell ⟨bw, 1, none⟩ (.int .i64 (m : Nat))) := ((Two.refl bw bw w).setCell (.inl rfl) _).setCell (.inl rfl) _
  have hr' := hr.result (w0 := w0) h.box h.below g3 (.slice (some ⟨g', 0, none⟩) Q1.length cap') (.int .i64 (m : Nat))
  exact ⟨h.ch.two ht (by omega) (by omega) (by omega), hr'.1, box2 h.box _ _, hr'.2, h.at0, h.at1⟩
end
end Go.Proofs.Ytgcfiiidhihkaaa.C
