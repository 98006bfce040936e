/- The walks of ring.Ring[int] over a ring that lies in memory. -/
import Derived.Test.YtpeedbnboghafaaBase
import Derived.Test.YtpeedbnboghafaaRingP
import Derived.Test.YtpeedbnboghafaaProg
import Derived.KernelRfl
import Derived.StillTailTactics
import Derived.Deep.QuietTactic
import Derived.Deep.RegionWith
import Derived.BigQuiet
import Derived.Outline
import Derived.Laws.MakeOwn

namespace Go.Proofs.Ytpeedbnboghafaa.C.RI
open Go.RowKit
set_option linter.unusedVariables false

def rowOf (l : List Int) : Array Value := (l.map fun x => (Value.int .i64 x)).toArray
/-- A ring in memory: its struct in block pb, its row in block b. -/
structure RAt (w : World) (pb b first n : Nat) (l : List Int) : Prop where
  ptr : w.heap[pb]? = some (.cells #[.slice (some ⟨b, 0, none⟩) l.length l.length, .int .i64 (first : Nat), .int .i64 (n : Nat)] 68 (0, 0))
  row : w.heap[b]? = some (.cells (rowOf l) 3 (0, 0))
section
variable {w : World} {pb b first n : Nat} {l : List Int}
theorem RAt.ne (h : RAt w pb b first n l) : pb ≠ b := by
  rintro rfl
  have := h.ptr.symm.trans h.row
  injection this with this
  injection this with _ h2
  exact absurd h2 (by decide)
theorem RAt.c0 (h : RAt w pb b first n l) : w.cell? ⟨pb, 0, none⟩ = some (.slice (some ⟨b, 0, none⟩) l.length l.length) := by rw [cell_of_row _ _ _ _ _ _ h.ptr]; rfl
theorem RAt.c1 (h : RAt w pb b first n l) : w.cell? ⟨pb, 1, none⟩ = some (.int .i64 (first : Nat)) := by rw [cell_of_row _ _ _ _ _ _ h.ptr]; rfl
theorem RAt.c2 (h : RAt w pb b first n l) : w.cell? ⟨pb, 2, none⟩ = some (.int .i64 (n : Nat)) := by rw [cell_of_row _ _ _ _ _ _ h.ptr]; rfl
theorem RAt.at_ (h : RAt w pb b first n l) {i : Nat} {x : Int} (hp : l[i]? = some x) : w.cell? ⟨b, i, none⟩ = some (Value.int .i64 x) := by
  rw [cell_of_row _ _ _ _ _ _ h.row]
  simp [rowOf, hp]
theorem RAt.f (h : RAt w pb b first n l) (j : Nat) : w.frozen? ⟨pb, j, none⟩ = false := frozen_of_row _ _ _ _ _ h.ptr
theorem RAt.fr (h : RAt w pb b first n l) (j : Nat) : w.frozen? ⟨b, j, none⟩ = false := frozen_of_row _ _ _ _ _ h.row
theorem RAt.drewN (h : RAt w pb b first n l) (k : Nat) : RAt (w.drewN k) pb b first n l := ⟨h.ptr, h.row⟩
theorem RAt.setFirst (h : RAt w pb b first n l) (x : Nat) : RAt (w.setCell ⟨pb, 1, none⟩ (.int .i64 (x : Nat))) pb b x n l :=
  ⟨by rw [heap_setCell_same _ _ _ _ _ _ h.ptr]; rfl, by rw [heap_setCell_other _ _ _ _ (by simpa using h.ne.symm)]; exact h.row⟩
theorem RAt.setN (h : RAt w pb b first n l) (x : Nat) : RAt (w.setCell ⟨pb, 2, none⟩ (.int .i64 (x : Nat))) pb b first x l :=
  ⟨by rw [heap_setCell_same _ _ _ _ _ _ h.ptr]; rfl, by rw [heap_setCell_other _ _ _ _ (by simpa using h.ne.symm)]; exact h.row⟩
theorem RAt.setX (h : RAt w pb b first n l) (i : Nat) (x : Int) : RAt (w.setCell ⟨b, i, none⟩ (Value.int .i64 x)) pb b first n (l.set i x) := by
  refine ⟨?_, ?_⟩
  · rw [heap_setCell_other _ _ _ _ (by simpa using h.ne), List.length_set]
    exact h.ptr
  · rw [heap_setCell_same _ b i _ _ (Value.int .i64 x) h.row]
    simp [rowOf, List.map_set]
theorem RAt.two (h : RAt w pb b first n l) {w' : World} {g k : Nat} (p : Two g k w w') (h1 : pb ≠ g) (h2 : pb ≠ k) (h3 : b ≠ g) (h4 : b ≠ k) : RAt w' pb b first n l :=
  ⟨(p.block pb (Array.getElem?_eq_some_iff.1 h.ptr).1 h1 h2).trans h.ptr, (p.block b (Array.getElem?_eq_some_iff.1 h.row).1 h3 h4).trans h.row⟩
theorem RAt.below (h : RAt w pb b first n l) {w' : World} (p : Below w.heap.size w w') : RAt w' pb b first n l :=
  ⟨(p.block pb (Array.getElem?_eq_some_iff.1 h.ptr).1).trans h.ptr, (p.block b (Array.getElem?_eq_some_iff.1 h.row).1).trans h.row⟩
end
theorem has_nil (i : Int) (w : World) : Calls Try.prog 35 #[.pointer none, .int .i64 i] w fun e w' => e = .returned (.bool false) ∧ w' = w := by
  go_enter Try.func35, Try.ntmps35
  go_wp2
  go_ret
  exact ⟨rfl, rfl⟩
theorem has_any (pb b first n : Nat) (i : Int) (l : List Int) (w : World) (h : RAt w pb b first n l) :
    Calls Try.prog 35 #[.pointer (some ⟨pb, 0, none⟩), .int .i64 i] w fun e w' => e = .returned (.bool (decide (0 ≤ i ∧ i < n))) ∧ w' = w := by
  have c2 := h.c2
  clear h
  by_cases h0 : 0 ≤ i
  · by_cases h1 : i < n
    · rw [decide_eq_true ⟨h0, h1⟩]
      have d1 : decide (i < (n : Int)) = true := decide_eq_true h1
      go_enter Try.func35, Try.ntmps35
      go_wp2
      go_ret
      exact ⟨rfl, rfl⟩
    · rw [decide_eq_false (fun h => h1 h.2)]
      have d1 : decide (i < (n : Int)) = false := decide_eq_false h1
      go_enter Try.func35, Try.ntmps35
      go_wp2
      go_ret
      exact ⟨rfl, rfl⟩
  · rw [decide_eq_false (fun h => h0 h.1)]
    go_enter Try.func35, Try.ntmps35
    go_wp2
    go_ret
    exact ⟨rfl, rfl⟩
theorem place_any (pb b first n k : Nat) (l : List Int) (w : World) (h : RAt w pb b first n l) (hl : l.length ≤ 65536) (hf : first < l.length) (hk : k ≤ 65536) :
    Calls Try.prog 34 #[.pointer (some ⟨pb, 0, none⟩), .int .i64 (k : Nat)] w fun e w' => e = .returned (.int .i64 (pl first k l.length : Nat)) ∧ ∃ m, w' = w.drewN m := by
  have c0 := h.c0
  have c1 := h.c1
  have hp : ((pl first k l.length : Nat) : Int) = ((first : Int) + (k : Int)) % (l.length : Int) := by simp [pl]
  have hw1 : IntKind.i64.wrap ((first : Int) + (k : Int)) = (first : Int) + (k : Int) := IntWalk.i64_in _ (by omega)
  have ht : ((first : Int) + (k : Int)).tmod (l.length : Int) = ((first : Int) + (k : Int)) % (l.length : Int) := Int.tmod_eq_emod_of_nonneg (by omega)
  have hz : ((l.length : Int) == 0) = false := beq_false_of_ne (by omega)
  have hz' : ¬ (l.length : Int) = 0 := by omega
  have hw2 : IntKind.i64.wrap (((first : Int) + (k : Int)) % (l.length : Int)) = ((first : Int) + (k : Int)) % (l.length : Int) := IntWalk.i64_in _ ⟨by have := Int.emod_nonneg ((first : Int) + (k : Int)) hz'; omega, by have := Int.emod_lt_of_pos ((first : Int) + (k : Int)) (show (0 : Int) < l.length by omega); omega⟩
  rw [hp]
  clear h hp
  go_enter Try.func34, Try.ntmps34
  go_wp2
  go_quiet (fail)
  go_wp2
  go_ret
  exact ⟨rfl, _, rfl⟩
theorem at_no (pb b first n : Nat) (i : Int) (l : List Int) (w : World) (h : RAt w pb b first n l) (hi : ¬ (0 ≤ i ∧ i < n)) :
    Calls Try.prog 29 #[.pointer (some ⟨pb, 0, none⟩), .int .i64 i] w fun e w' => e = .returned (.tuple #[Value.int .i64 0, .bool false]) ∧ w' = w := by
  have C := Lib.hid (has_any pb b first n i l w h)
  rw [decide_eq_false hi] at C
  clear h hi
  go_enter Try.func29, Try.ntmps29
  go_wp2_with fail
  refine C.out.mono ?_
  rintro e w1 ⟨rfl, rfl⟩
  go_wp2
  go_ret2
  exact ⟨rfl, rfl⟩
theorem at_yes (pb b first n k : Nat) (x : Int) (l : List Int) (w : World) (h : RAt w pb b first n l) (hl : l.length ≤ 65536) (hf : first < l.length) (hn : n ≤ l.length) (hk : k < n) (hx : Hid (l[pl first k l.length]? = some x)) :
    Calls Try.prog 29 #[.pointer (some ⟨pb, 0, none⟩), .int .i64 (k : Nat)] w fun e w' => e = .returned (.tuple #[(Value.int .i64 x), .bool true]) ∧ ∃ m, w' = w.drewN m := by
  have C := Lib.hid (has_any pb b first n (k : Nat) l w h)
  rw [decide_eq_true (show (0 : Int) ≤ (k : Nat) ∧ ((k : Nat) : Int) < (n : Nat) by omega)] at C
  have HP : Hid (∀ q, Calls Try.prog 34 #[.pointer (some ⟨pb, 0, none⟩), .int .i64 (k : Nat)] (w.drewN q) fun e w' => e = .returned (.int .i64 (pl first k l.length : Nat)) ∧ ∃ m, w' = (w.drewN q).drewN m) := fun q => place_any pb b first n k l _ (h.drewN q) hl hf (by omega)
  have c0 := h.c0
  have cx := h.at_ hx.out
  have hlt := pl_lt (first := first) (k := k) (show 0 < l.length by omega)
  generalize pl first k l.length = p at *
  clear h hx
  go_enter Try.func29, Try.ntmps29
  go_wp2_with fail
  refine C.out.mono ?_
  rintro e w1 ⟨rfl, rfl⟩
  go_wp2
  go_quiet (exact Calls.quiet_of (HP.out _))
  go_wp2
  go_ret2
  exact ⟨rfl, _, rfl⟩
theorem push_full (pb b first n : Nat) (x : Int) (l : List Int) (w : World) (h : RAt w pb b first n l) (hn : n = l.length) :
    Calls Try.prog 18 #[.pointer (some ⟨pb, 0, none⟩), (Value.int .i64 x)] w fun e w' => e = .returned (.bool false) ∧ ∃ m, w' = w.drewN m := by
  subst hn
  have c0 := h.c0
  have c2 := h.c2
  generalize l.length = n at *
  clear h
  go_enter Try.func18, Try.ntmps18
  go_wp2
  go_quiet (fail)
  go_wp2
  go_ret
  exact ⟨rfl, _, rfl⟩
theorem push_nil (x : Int) (w : World) : Calls Try.prog 18 #[.pointer none, (Value.int .i64 x)] w fun e w' => e = .returned (.bool false) ∧ ∃ m, w' = w.drewN m := by
  go_enter Try.func18, Try.ntmps18
  go_wp2
  go_quiet (fail)
  go_wp2
  go_ret
  exact ⟨rfl, _, rfl⟩
set_option maxHeartbeats 800000 in
theorem push_room (pb b first n : Nat) (x : Int) (l : List Int) (w : World) (h : RAt w pb b first n l) (hl : l.length ≤ 65536) (hf : first < l.length) (hn : n < l.length) :
    Calls Try.prog 18 #[.pointer (some ⟨pb, 0, none⟩), (Value.int .i64 x)] w fun e w' => e = .returned (.bool true) ∧ RAt w' pb b first (n + 1) (l.set (pl first n l.length) x) ∧ Two pb b w w' := by
  have HP : Hid (∀ q, Calls Try.prog 34 #[.pointer (some ⟨pb, 0, none⟩), .int .i64 (n : Nat)] (w.drewN q) fun e w' => e = .returned (.int .i64 (pl first n l.length : Nat)) ∧ ∃ m, w' = (w.drewN q).drewN m) := fun q => place_any pb b first n n l _ (h.drewN q) hl hf (by omega)
  have c0 := h.c0
  have c2 := h.c2
  have hlt := pl_lt (first := first) (k := n) (show 0 < l.length by omega)
  obtain ⟨y, hy⟩ : ∃ y, l[pl first n l.length]? = some y := ⟨_, List.getElem?_eq_getElem hlt⟩
  have cy := h.at_ hy
  have fy := h.fr (pl first n l.length)
  have hz : ((n : Int) == (l.length : Int)) = false := beq_false_of_ne (by omega)
  have HR : Hid (∀ q, RAt (((w.drewN q).setCell ⟨b, pl first n l.length, none⟩ (Value.int .i64 x)).setCell ⟨pb, 2, none⟩ (.int .i64 ((n : Int) + 1))) pb b first (n + 1) (l.set (pl first n l.length) x)) := fun q => ((h.drewN q).setX _ x).setN (n + 1)
  have c2' : ∀ q, ((w.drewN q).setCell ⟨b, pl first n l.length, none⟩ (Value.int .i64 x)).cell? ⟨pb, 2, none⟩ = some (.int .i64 (n : Nat)) := fun q => ((h.drewN q).setX _ x).c2
  have f2' : ∀ q, ((w.drewN q).setCell ⟨b, pl first n l.length, none⟩ (Value.int .i64 x)).frozen? ⟨pb, 2, none⟩ = false := fun q => ((h.drewN q).setX _ x).f 2
  generalize pl first n l.length = p at *
  clear h hy
  go_enter Try.func18, Try.ntmps18
  go_wp2
  go_quiet (fail)
  go_wp2_with fail
  go_region_with (go_at_call 34; refine (HP.out _).mono ?_; rintro e w1 ⟨rfl, q, rfl⟩)
  all_goals
    go_wp2
    go_ret
    exact ⟨rfl, HR.out _, ((((Two.refl pb b _).drewN _).setCell (x := ⟨b, p, none⟩) (.inr rfl) _).setCell (x := ⟨pb, 2, none⟩) (.inl rfl) _)⟩
set_option maxHeartbeats 800000 in
theorem pop_no (pb b first : Nat) (l : List Int) (w : World) (h : RAt w pb b first 0 l) :
    Calls Try.prog 20 #[.pointer (some ⟨pb, 0, none⟩)] w fun e w' => e = .returned (.tuple #[Value.int .i64 0, .bool false]) ∧ w' = w := by
  have C : Hid (Calls Try.prog 29 #[.pointer (some ⟨pb, 0, none⟩), .int .i64 0] w _) := at_no pb b first 0 0 l w h (by omega)
  clear h
  go_enter Try.func20, Try.ntmps20
  go_wp2_with fail
  refine C.out.mono ?_
  rintro e w1 ⟨rfl, rfl⟩
  go_wp2
  go_ret2
  exact ⟨rfl, rfl⟩
set_option maxRecDepth 100000 in
set_option maxHeartbeats 800000 in
theorem pop_yes (pb b first n : Nat) (x : Int) (l : List Int) (w : World) (h : RAt w pb b first n l) (hl : l.length ≤ 65536) (hf : first < l.length) (hn : n ≤ l.length) (h0 : 0 < n) (hx : Hid (l[first]? = some x)) :
    Calls Try.prog 20 #[.pointer (some ⟨pb, 0, none⟩)] w fun e w' => e = .returned (.tuple #[(Value.int .i64 x), .bool true]) ∧ RAt w' pb b (pl first 1 l.length) (n - 1) (l.set first (0 : Int)) ∧ Two pb b w w' := by
  have C : Hid (Calls Try.prog 29 #[.pointer (some ⟨pb, 0, none⟩), .int .i64 0] w _) := at_yes pb b first n 0 x l w h hl hf hn h0 (by show _ = _; rw [pl_zero hf]; exact hx.out)
  have H := Lib.hid h
  clear h
  go_enter Try.func20, Try.ntmps20
  go_wp2_with fail
  refine C.out.mono ?_
  rintro e w1 ⟨rfl, m, rfl⟩
  clear C
  go_wp2_with fail
  refine wp_region_still_tail 10 (by kernel_rfl) (by kernel_rfl) ?_
  change wpStill _ _ (w.drewN m).drew (fun a' => wpList _ _ _ _ a' (w.drewN m).drew) _ _
  simp only [List.take_succ_cons, List.take_zero, List.drop_succ_cons, List.drop_zero]
  have h' : RAt (w.drewN m).drew pb b first n l := ⟨H.out.ptr, H.out.row⟩
  have p1 : Two pb b w (w.drewN m).drew := ((Two.refl pb b w).drewN m).drewN 1
  clear H
  generalize (w.drewN m).drew = w2 at h' p1 ⊢
  have c0 := h'.c0
  have c1 := h'.c1
  have HH := Lib.hid h'
  clear h'
  iterate 10 still_step
  refine wpStill_nil ?_
  have h' := HH.out
  clear HH
  have cx := h'.at_ hx.out
  have fx := h'.fr first
  have h2 := h'.setX first (0 : Int)
  have HP := Lib.hid (place_any pb b first n 1 _ _ h2 (by rw [List.length_set]; exact hl) (by rw [List.length_set]; exact hf) (by omega))
  rw [List.length_set] at HP
  have f1 : ∀ q, ((w2.setCell ⟨b, first, none⟩ (Value.int .i64 0)).drewN q).frozen? ⟨pb, 1, none⟩ = false := fun q => (h2.drewN q).f 1
  have c1' : ∀ q, ((w2.setCell ⟨b, first, none⟩ (Value.int .i64 0)).drewN q).cell? ⟨pb, 1, none⟩ = some (.int .i64 (first : Nat)) := fun q => (h2.drewN q).c1
  have H2 := Lib.hid h2
  clear h' h2
  go_wp2_with fail
  refine HP.out.mono ?_
  rintro e w3 ⟨rfl, q, rfl⟩
  have h3 := (H2.out.drewN q).setFirst (pl first 1 l.length)
  have c2 := h3.c2
  have f2 := h3.f 2
  have H3 := Lib.hid (h3.setN (n - 1))
  have hn1 : ((n : Int) - 1) = ((n - 1 : Nat) : Int) := by omega
  have p3 : ∀ u v : Value, Two pb b w ((((w2.setCell ⟨b, first, none⟩ (Value.int .i64 0)).drewN q).setCell ⟨pb, 1, none⟩ u).setCell ⟨pb, 2, none⟩ v) := fun u v => (((p1.setCell (x := ⟨b, first, none⟩) (.inr rfl) _).drewN q).setCell (x := ⟨pb, 1, none⟩) (.inl rfl) u).setCell (x := ⟨pb, 2, none⟩) (.inl rfl) v
  have P3 := Lib.hid p3
  clear HP H2 h3 p3
  go_wp2
  go_ret2
  exact ⟨rfl, H3.out, P3.out _ _⟩

/-- A ring in memory, told by what is in it. -/
def Ring (w : World) (pb b room : Nat) (q : List Int) : Prop := ∃ first l, RAt w pb b first q.length l ∧ RInv l first q ∧ l.length = room ∧ room ≤ 4096
section
variable {w : World} {pb b room : Nat} {q : List Int}
theorem Ring.drewN (h : Ring w pb b room q) (n : Nat) : Ring (w.drewN n) pb b room q := by
  obtain ⟨first, l, h1, h2⟩ := h
  exact ⟨first, l, h1.drewN n, h2⟩
theorem Ring.below (h : Ring w pb b room q) {w' : World} (p : Below w.heap.size w w') : Ring w' pb b room q := by
  obtain ⟨first, l, h1, h2⟩ := h
  exact ⟨first, l, h1.below p, h2⟩
theorem Ring.two (h : Ring w pb b room q) {w' : World} {g k : Nat} (p : Two g k w w') (h1 : pb ≠ g) (h2 : pb ≠ k) (h3 : b ≠ g) (h4 : b ≠ k) : Ring w' pb b room q := by
  obtain ⟨first, l, h5, h6⟩ := h
  exact ⟨first, l, h5.two p h1 h2 h3 h4, h6⟩
theorem Ring.lt (h : Ring w pb b room q) : pb < w.heap.size ∧ b < w.heap.size := by
  obtain ⟨first, l, h1, _⟩ := h
  exact ⟨(Array.getElem?_eq_some_iff.1 h1.ptr).1, (Array.getElem?_eq_some_iff.1 h1.row).1⟩
theorem Ring.grown {w' : World} {row : Option Nat} (h : Ring w pb b room q) (p : w.grownBy w' row) (h1 : some pb ≠ row) (h2 : some b ≠ row) : Ring w' pb b room q := by
  obtain ⟨first, l, h5, h6⟩ := h
  exact ⟨first, l, ⟨(p.block pb (Array.getElem?_eq_some_iff.1 h5.ptr).1 h1).trans h5.ptr, (p.block b (Array.getElem?_eq_some_iff.1 h5.row).1 h2).trans h5.row⟩, h6⟩
theorem Ring.len (h : Ring w pb b room q) : q.length ≤ room ∧ 0 < room ∧ room ≤ 4096 := by
  obtain ⟨first, l, _, h2, rfl, h4⟩ := h
  exact ⟨h2.len, by have := h2.fst; omega, h4⟩
theorem r_push_full (x : Int) (h : Ring w pb b room q) (hn : q.length = room) :
    Calls Try.prog 18 #[.pointer (some ⟨pb, 0, none⟩), (Value.int .i64 x)] w fun e w' => e = .returned (.bool false) ∧ Ring w' pb b room q ∧ Two pb b w w' := by
  obtain ⟨first, l, h1, h2, rfl, h4⟩ := h
  refine (push_full pb b first q.length x l w h1 hn).mono ?_
  rintro e w' ⟨rfl, m, rfl⟩
  exact ⟨rfl, ⟨first, l, h1.drewN m, h2, rfl, h4⟩, (Two.refl _ _ _).drewN m⟩
theorem r_push (x : Int) (h : Ring w pb b room q) (hn : q.length < room) :
    Calls Try.prog 18 #[.pointer (some ⟨pb, 0, none⟩), (Value.int .i64 x)] w fun e w' => e = .returned (.bool true) ∧ Ring w' pb b room (q ++ [x]) ∧ Two pb b w w' := by
  obtain ⟨first, l, h1, h2, rfl, h4⟩ := h
  refine (push_room pb b first q.length x l w h1 (by omega) h2.fst hn).mono ?_
  rintro e w' ⟨rfl, h5, h6⟩
  exact ⟨rfl, ⟨first, _, by simpa using h5, h2.push hn x, by rw [List.length_set], h4⟩, h6⟩
theorem r_pop_none (h : Ring w pb b room []) :
    Calls Try.prog 20 #[.pointer (some ⟨pb, 0, none⟩)] w fun e w' => e = .returned (.tuple #[Value.int .i64 0, .bool false]) ∧ w' = w := by
  obtain ⟨first, l, h1, h2, rfl, h4⟩ := h
  exact pop_no pb b first l w h1
theorem r_pop (x : Int) (t : List Int) (h : Ring w pb b room (x :: t)) :
    Calls Try.prog 20 #[.pointer (some ⟨pb, 0, none⟩)] w fun e w' => e = .returned (.tuple #[(Value.int .i64 x), .bool true]) ∧ Ring w' pb b room t ∧ Two pb b w w' := by
  obtain ⟨first, l, h1, h2, rfl, h4⟩ := h
  obtain ⟨g1, g2⟩ := h2.pop (0 : Int)
  refine (pop_yes pb b first (x :: t).length x l w h1 (by omega) h2.fst h2.len (by simp) g1).mono ?_
  rintro e w' ⟨rfl, h5, h6⟩
  exact ⟨rfl, ⟨_, _, by simpa using h5, g2, by rw [List.length_set], h4⟩, h6⟩
theorem r_at_no (i : Int) (h : Ring w pb b room q) (hi : ¬ (0 ≤ i ∧ i < q.length)) :
    Calls Try.prog 29 #[.pointer (some ⟨pb, 0, none⟩), .int .i64 i] w fun e w' => e = .returned (.tuple #[Value.int .i64 0, .bool false]) ∧ w' = w := by
  obtain ⟨first, l, h1, h2, rfl, h4⟩ := h
  exact at_no pb b first _ i l w h1 hi
theorem r_at (k : Nat) (x : Int) (h : Ring w pb b room q) (hx : q[k]? = some x) :
    Calls Try.prog 29 #[.pointer (some ⟨pb, 0, none⟩), .int .i64 (k : Nat)] w fun e w' => e = .returned (.tuple #[(Value.int .i64 x), .bool true]) ∧ ∃ m, w' = w.drewN m := by
  obtain ⟨first, l, h1, h2, rfl, h4⟩ := h
  exact at_yes pb b first _ k x l w h1 (by omega) h2.fst h2.len (lt_of_some hx) (h2.at_ k x hx)
end

theorem make_row (n : Nat) (hn : n ≤ 65536) (W : World) : (Instr.makeSlice 49 (.int .i64 (n : Int)) (.int .i64 (n : Int))).run Try.prog W = .ok (.slice (some ⟨W.heap.size, 0, none⟩) n n) (W.alloc (.cells (rowOf (List.replicate n (0 : Int))) 3)) := by
  obtain ⟨i0, hi, hz0, hz1, hz2⟩ := info_parts (show (Try.prog.info? 3).map (fun i => (i.zero, i.size, i.bytes)) = some (some (Value.int .i64 0), 1, 8) by kernel_rfl)
  have hr := run_make (P := Try.prog) W 49 3 i0 (Value.int .i64 0) Try.underlying49 hi hz0 .i64 .i64 n n (by omega) (by omega) (by rw [hz2]; omega) (by omega)
  simp only [Int.toNat_natCast] at hr
  rw [hr, hz1, Nat.mul_one]
  have e : madeCells (Value.cells (Value.int .i64 0)) n = rowOf (List.replicate n (0 : Int)) := by
    apply Array.toList_inj.1
    show (madeCells #[Value.int .i64 0] n).toList = _
    rw [toList_madeCells_one]
    simp [rowOf]
  rw [e]
theorem new_bad (n : Int) (w : World) (h : n < 1 ∨ 4096 < n) :
    Calls Try.prog 17 #[.int .i64 n] w fun e w' => e = .returned (.tuple #[.pointer none, .int .i64 1]) ∧ w' = w := by
  by_cases h1 : n < 1
  · go_enter Try.func17, Try.ntmps17
    go_wp2
    go_ret2
    exact ⟨rfl, rfl⟩
  · have h1' : 1 ≤ n := by omega
    have h2 : 4096 < n := by omega
    go_enter Try.func17, Try.ntmps17
    go_wp2
    go_ret2
    exact ⟨rfl, rfl⟩
set_option maxHeartbeats 800000 in
theorem r_new (n : Nat) (w : World) (h1 : 1 ≤ n) (h2 : n ≤ 4096) :
    Calls Try.prog 17 #[.int .i64 (n : Nat)] w fun e w' => e = .returned (.tuple #[.pointer (some ⟨w.heap.size + 1, 0, none⟩), .int .i64 0]) ∧ Ring w' (w.heap.size + 1) w.heap.size n [] ∧ Below w.heap.size w w' := by
  have hmk := make_row n (by omega)
  have hd1 : decide (n < 1) = false := by simp; omega
  have hd2 : decide (4096 < n) = false := by simp; omega
  go_enter Try.func17, Try.ntmps17
  go_wp2
  clear hmk
  go_ret2
  exact ⟨rfl, ⟨0, List.replicate n (0 : Int), ⟨by rw [heap_alloc2_new]; simp, by rw [heap_alloc2_old]⟩, RInv.new _ n (by omega), by simp, h2⟩, ((Below.refl _ _).alloc (Nat.le_refl _) _).alloc (by simp) _⟩
end Go.Proofs.Ytpeedbnboghafaa.C.RI
