/- The walks of package quota over a quota that lies in memory. -/
import Derived.Test.YtflgpbjhjomogaaBase
import Derived.Test.YtflgpbjhjomogaaProg
import Derived.KernelRfl
import Derived.StillTailTactics
import Derived.Deep.QuietTactic
import Derived.BigQuiet
import Derived.Deep.DeepMust
import Derived.Outline
namespace Go.Proofs.Ytflgpbjhjomogaa.C
open Go.RowKit
set_option linter.unusedVariables false

/-- At most the blocks g and h have turned; new ones may have come. -/
structure Two (g h : Nat) (w w' : World) : Prop where
  os : w'.os = w.os
  tape : w'.tape = w.tape
  output : w'.output = w.output
  size : w.heap.size ≤ w'.heap.size
  block : ∀ k, k < w.heap.size → k ≠ g → k ≠ h → w'.heap[k]? = w.heap[k]?
theorem Two.refl (g h : Nat) (w : World) : Two g h w w := ⟨rfl, rfl, rfl, Nat.le_refl _, fun _ _ _ _ => rfl⟩
theorem Two.trans {g h : Nat} {a b c : World} (p : Two g h a b) (q : Two g h b c) : Two g h a c :=
  ⟨q.os.trans p.os, q.tape.trans p.tape, q.output.trans p.output, Nat.le_trans p.size q.size, fun k hk h1 h2 => (q.block k (Nat.lt_of_lt_of_le hk p.size) h1 h2).trans (p.block k hk h1 h2)⟩
theorem Two.drewN {g h : Nat} {a b : World} (p : Two g h a b) (n : Nat) : Two g h a (b.drewN n) := ⟨p.os, p.tape, p.output, p.size, p.block⟩
theorem Two.setCell {g h : Nat} {a b : World} (p : Two g h a b) {x : Addr} (hx : x.block = g ∨ x.block = h) (v : Value) : Two g h a (b.setCell x v) :=
  p.trans ⟨rfl, rfl, rfl, by simp [World.setCell], fun k _ h1 h2 => Below.heap_setCell _ _ _ _ (by rcases hx with hx | hx <;> omega)⟩
theorem Two.below {g h B : Nat} {a b : World} (p : Two g h a b) (hB : B ≤ a.heap.size) (hg : B ≤ g) (hh : B ≤ h) : Below B a b :=
  ⟨p.os, p.tape, p.output, p.size, fun k hk => p.block k (by omega) (by omega) (by omega)⟩

def ints (l : List Int) : Array Value := (l.map (Value.int .i64)).toArray
theorem ints_size (l : List Int) : (ints l).size = l.length := by simp [ints]
theorem ints_at (l : List Int) (c : Nat) : (ints l)[c]? = (l[c]?).map (Value.int .i64) := by simp [ints]
theorem ints_set (l : List Int) (c : Nat) (x : Int) : (ints l).setIfInBounds c (.int .i64 x) = ints (l.set c x) := by
  apply Array.ext_getElem?
  intro j
  rw [ints_at, List.getElem?_set, Array.getElem?_setIfInBounds, ints_at, ints_size]
  split
  · split <;> rfl
  · rfl

/-- A quota in memory: its struct in block pb, its classes' numbers in block b. -/
structure QAt (w : World) (pb b : Nat) (r m s : Int) (l : List Int) : Prop where
  ptr : w.heap[pb]? = some (.cells #[.int .i64 r, .int .i64 m, .int .i64 s, .slice (some ⟨b, 0, none⟩) l.length l.length] 61 (0, 0))
  row : w.heap[b]? = some (.cells (ints l) 2 (0, 0))
section
variable {w : World} {pb b : Nat} {r m s : Int} {l : List Int}
theorem QAt.ne (h : QAt w pb b r m s l) : pb ≠ b := by
  rintro rfl
  have := h.ptr.symm.trans h.row
  injection this with this
  injection this with _ h2
  exact absurd h2 (by decide)
theorem QAt.c0 (h : QAt w pb b r m s l) : w.cell? ⟨pb, 0, none⟩ = some (.int .i64 r) := by rw [cell_of_row _ _ _ _ _ _ h.ptr]; rfl
theorem QAt.c1 (h : QAt w pb b r m s l) : w.cell? ⟨pb, 1, none⟩ = some (.int .i64 m) := by rw [cell_of_row _ _ _ _ _ _ h.ptr]; rfl
theorem QAt.c2 (h : QAt w pb b r m s l) : w.cell? ⟨pb, 2, none⟩ = some (.int .i64 s) := by rw [cell_of_row _ _ _ _ _ _ h.ptr]; rfl
theorem QAt.c3 (h : QAt w pb b r m s l) : w.cell? ⟨pb, 3, none⟩ = some (.slice (some ⟨b, 0, none⟩) l.length l.length) := by rw [cell_of_row _ _ _ _ _ _ h.ptr]; rfl
theorem QAt.at_ (h : QAt w pb b r m s l) {c : Nat} {x : Int} (hx : l[c]? = some x) : w.cell? ⟨b, c, none⟩ = some (.int .i64 x) := by rw [cell_of_row _ _ _ _ _ _ h.row, ints_at, hx]; rfl
theorem QAt.f (h : QAt w pb b r m s l) (j : Nat) : w.frozen? ⟨pb, j, none⟩ = false := frozen_of_row _ _ _ _ _ h.ptr
theorem QAt.fr (h : QAt w pb b r m s l) (j : Nat) : w.frozen? ⟨b, j, none⟩ = false := frozen_of_row _ _ _ _ _ h.row
theorem QAt.drewN (h : QAt w pb b r m s l) (n : Nat) : QAt (w.drewN n) pb b r m s l := ⟨h.ptr, h.row⟩
theorem QAt.setS (h : QAt w pb b r m s l) (s' : Int) : QAt (w.setCell ⟨pb, 2, none⟩ (.int .i64 s')) pb b r m s' l :=
  ⟨by rw [heap_setCell_same _ _ _ _ _ _ h.ptr]; rfl, by rw [heap_setCell_other _ _ _ _ (by simpa using h.ne.symm)]; exact h.row⟩
theorem QAt.setL (h : QAt w pb b r m s l) (c : Nat) (x : Int) : QAt (w.setCell ⟨b, c, none⟩ (.int .i64 x)) pb b r m s (l.set c x) :=
  ⟨by rw [heap_setCell_other _ _ _ _ (by simpa using h.ne), List.length_set]; exact h.ptr, by rw [heap_setCell_same _ _ _ _ _ _ h.row, ints_set]⟩
theorem QAt.two (h : QAt w pb b r m s l) {w' : World} {g k : Nat} (p : Two g k w w') (h1 : pb ≠ g) (h2 : pb ≠ k) (h3 : b ≠ g) (h4 : b ≠ k) : QAt w' pb b r m s l :=
  ⟨(p.block pb (Array.getElem?_eq_some_iff.1 h.ptr).1 h1 h2).trans h.ptr, (p.block b (Array.getElem?_eq_some_iff.1 h.row).1 h3 h4).trans h.row⟩
theorem QAt.below (h : QAt w pb b r m s l) {w' : World} (p : Below w.heap.size w w') : QAt w' pb b r m s l :=
  ⟨(p.block pb (Array.getElem?_eq_some_iff.1 h.ptr).1).trans h.ptr, (p.block b (Array.getElem?_eq_some_iff.1 h.row).1).trans h.row⟩
end

def overQ (r n : Int) : Int := if r < n then n - r else 0
theorem over_any (pb : Nat) (r n : Int) (w : World) (h0 : w.cell? ⟨pb, 0, none⟩ = some (.int .i64 r)) (hr0 : 0 ≤ r) (hr1 : r ≤ 1073741824) (hn0 : -4611686018427387904 ≤ n) (hn1 : n ≤ 4611686018427387904) :
    Calls Try.prog 30 #[.pointer (some ⟨pb, 0, none⟩), .int .i64 n] w fun e w' => e = .returned (.int .i64 (overQ r n)) ∧ w' = w := by
  by_cases h : r < n
  · have hv : overQ r n = n - r := by unfold overQ; rw [if_pos h]
    have HV := Lib.hid hv
    clear hv
    go_enter Try.func30, Try.ntmps30
    go_wp2
    go_ret
    exact ⟨by rw [HV.out]; rfl, rfl⟩
  · have hv : overQ r n = 0 := by unfold overQ; rw [if_neg h]
    have HV := Lib.hid hv
    clear hv
    go_enter Try.func30, Try.ntmps30
    go_wp2
    go_ret
    exact ⟨by rw [HV.out]; rfl, rfl⟩
/-- What the quota has shared behind 'n more of x'. -/
def moreQ (r s x n : Int) : Int := s + (overQ r (x + n) - overQ r x)

theorem has_nil (c : Int) (w : World) : Calls Try.prog 29 #[.pointer none, .int .i64 c] w fun e w' => e = .returned (.bool false) ∧ w' = w := by
  go_enter Try.func29, Try.ntmps29
  go_wp2
  go_ret
  exact ⟨rfl, rfl⟩
theorem has_no (pb b : Nat) (r m s c : Int) (l : List Int) (w : World) (h : QAt w pb b r m s l) (hc : c < 0 ∨ (l.length : Int) ≤ c) (hl : l.length ≤ 65536) :
    Calls Try.prog 29 #[.pointer (some ⟨pb, 0, none⟩), .int .i64 c] w fun e w' => e = .returned (.bool false) ∧ w' = w := by
  have c3 := h.c3
  clear h
  rcases hc with h | h
  · go_enter Try.func29, Try.ntmps29
    go_wp2
    go_ret
    exact ⟨rfl, rfl⟩
  · have h0 : 0 ≤ c := by omega
    have hd : decide (c < (l.length : Int)) = false := by simp; omega
    go_enter Try.func29, Try.ntmps29
    go_wp2
    go_ret
    exact ⟨rfl, rfl⟩
theorem has_yes (pb b c : Nat) (r m s : Int) (l : List Int) (w : World) (h : QAt w pb b r m s l) (hc : c < l.length) (hl : l.length ≤ 65536) :
    Calls Try.prog 29 #[.pointer (some ⟨pb, 0, none⟩), .int .i64 c] w fun e w' => e = .returned (.bool true) ∧ w' = w := by
  have c3 := h.c3
  clear h
  go_enter Try.func29, Try.ntmps29
  go_wp2
  go_ret
  exact ⟨rfl, rfl⟩

/-- The bounds under which nothing overflows. -/
def QOk (r m s : Int) (l : List Int) : Prop := 0 ≤ r ∧ r ≤ 1073741824 ∧ 0 ≤ m ∧ m ≤ 1073741824 ∧ -1125899906842624 ≤ s ∧ s ≤ 1125899906842624 ∧ l.length ≤ 129 ∧ ∀ x ∈ l, 0 ≤ x ∧ x ≤ 1125899906842624
theorem overQ_range {r n : Int} (hr : 0 ≤ r) (h : n ≤ 4503599627370496) : 0 ≤ overQ r n ∧ overQ r n ≤ 4503599627370496 := by unfold overQ; split <;> omega

set_option maxHeartbeats 800000 in
theorem put_any (pb b c : Nat) (r m s n x : Int) (l : List Int) (w : World) (h : QAt w pb b r m s l) (hx : Hid (l[c]? = some x)) (hc : c < l.length) (hl : l.length ≤ 65536)
    (hr0 : 0 ≤ r) (hr1 : r ≤ 1073741824) (hs0 : -1125899906842624 ≤ s) (hs1 : s ≤ 1125899906842624) (hx0 : 0 ≤ x) (hx1 : x ≤ 1125899906842624) (hn0 : -1125899906842624 ≤ n) (hn1 : n ≤ 1125899906842624) :
    Calls Try.prog 28 #[.pointer (some ⟨pb, 0, none⟩), .int .i64 c, .int .i64 n] w fun e w' => e = .returned (.tuple #[]) ∧ QAt w' pb b r m (moreQ r s x n) (l.set c (x + n)) ∧ Two pb b w w' := by
  have o1 := overQ_range (n := x + n) hr0 (by omega)
  have o2 := overQ_range (n := x) hr0 (by omega)
  have hw1 : IntKind.i64.wrap (x + n) = x + n := IntWalk.i64_in _ (by omega)
  have hw2 : IntKind.i64.wrap (overQ r (x + n) - overQ r x) = overQ r (x + n) - overQ r x := IntWalk.i64_in _ (by omega)
  have hw3 : IntKind.i64.wrap (s + (overQ r (x + n) - overQ r x)) = s + (overQ r (x + n) - overQ r x) := IntWalk.i64_in _ (by omega)
  have c1 := over_any pb r (x + n) w.drew (by simpa using h.c0) hr0 hr1 (by omega) (by omega)
  have c2 := over_any pb r x w.drew (by simpa using h.c0) hr0 hr1 (by omega) (by omega)
  have HM : Hid (moreQ r s x n = s + (overQ r (x + n) - overQ r x)) := rfl
  generalize moreQ r s x n = s' at HM ⊢
  have h' : QAt w.drew pb b r m s l := ⟨h.ptr, h.row⟩
  have p1 : Two pb b w w.drew := (Two.refl pb b w).drewN 1
  go_enter Try.func28, Try.ntmps28
  go_wp2_with fail
  refine wp_region_still_tail 28 (by kernel_rfl) (by kernel_rfl) ?_
  change wpStill _ _ w.drew (fun a' => wpList _ _ _ _ a' w.drew) _ _
  simp only [List.take_succ_cons, List.take_zero, List.drop_succ_cons, List.drop_zero]
  generalize overQ r (x + n) = v1 at *
  generalize overQ r x = v2 at *
  generalize w.drew = w2 at h' p1 c1 c2 ⊢
  have C1 := Lib.hid c1
  have C2 := Lib.hid c2
  clear h c1 c2 o1 o2
  have hxc := h'.at_ hx.out
  have q2 := h'.c2
  have q3 := h'.c3
  have f2 := h'.f 2
  have fc := h'.fr c
  iterate 14 still_step
  still_call C1.out
  iterate 8 still_step
  still_call C2.out
  iterate 4 still_step
  refine wpStill_nil ?_
  have h3 := h'.setS (s + (v1 - v2))
  have e1 := h3.at_ hx.out
  have e3 := h3.c3
  have ef := h3.fr c
  have H3 := Lib.hid h3
  clear C1 C2 hw2 hw3 h3
  go_wp2
  go_end0
  exact ⟨rfl, by rw [HM.out]; exact H3.out.setL c (x + n), (p1.setCell (.inl rfl) _).setCell (.inr rfl) _⟩

/-- May class c have n more? -/
def fitsB (r m s : Int) (l : List Int) (c n : Int) : Bool :=
  decide (0 ≤ c) && decide (0 ≤ n) && decide (n ≤ 1073741824) && (match l[c.toNat]? with | some x => decide (moreQ r s x n ≤ m) | none => false)
theorem fitsB_c {r m s : Int} {l : List Int} {c n : Int} (h : c < 0 ∨ (l.length : Int) ≤ c) : fitsB r m s l c n = false := by
  unfold fitsB
  rcases h with h | h
  · simp; omega
  · rw [List.getElem?_eq_none (by omega)]; simp
theorem fitsB_n {r m s : Int} {l : List Int} {c n : Int} (h : n < 0 ∨ 1073741824 < n) : fitsB r m s l c n = false := by
  unfold fitsB
  rcases h with h | h
  · rw [show decide (0 ≤ n) = false by simp; omega]; simp
  · rw [show decide (n ≤ 1073741824) = false by simp; omega]; simp
theorem fitsB_x {r m s : Int} {l : List Int} {c : Nat} {n x : Int} (h : l[c]? = some x) (h0 : 0 ≤ n) (h1 : n ≤ 1073741824) : fitsB r m s l c n = decide (moreQ r s x n ≤ m) := by
  unfold fitsB
  simp [h, h0, h1]
def Quiet (v : Value) (w : World) (e : Ending) (w' : World) : Prop := e = .returned v ∧ ∃ k, w' = w.drewN k

theorem fits_nil (c n : Int) (w : World) : Calls Try.prog 16 #[.pointer none, .int .i64 c, .int .i64 n] w (Quiet (.bool false) w) := by
  go_enter Try.func16, Try.ntmps16
  go_wp2_with (go_at_call 29; refine (has_nil _ _).mono ?_; rintro e w1 ⟨rfl, rfl⟩)
  go_ret
  exact ⟨rfl, 0, rfl⟩
theorem fits_no (pb b : Nat) (r m s c n : Int) (l : List Int) (w : World) (h : QAt w pb b r m s l) (hc : c < 0 ∨ (l.length : Int) ≤ c) (hl : l.length ≤ 65536) :
    Calls Try.prog 16 #[.pointer (some ⟨pb, 0, none⟩), .int .i64 c, .int .i64 n] w (Quiet (.bool false) w) := by
  have H := Lib.hid h
  clear h
  go_enter Try.func16, Try.ntmps16
  go_wp2_with (go_at_call 29; refine (has_no pb b r m s c l _ H.out hc hl).mono ?_; rintro e w1 ⟨rfl, rfl⟩)
  go_ret
  exact ⟨rfl, 0, rfl⟩
theorem fits_n (pb b c : Nat) (r m s n : Int) (l : List Int) (w : World) (h : QAt w pb b r m s l) (hc : c < l.length) (hl : l.length ≤ 65536) (hn : n < 0 ∨ 1073741824 < n) :
    Calls Try.prog 16 #[.pointer (some ⟨pb, 0, none⟩), .int .i64 c, .int .i64 n] w (Quiet (.bool false) w) := by
  have H := Lib.hid h
  clear h
  rcases hn with hn | hn
  · go_enter Try.func16, Try.ntmps16
    go_wp2_with (go_at_call 29; refine (has_yes pb b c r m s l _ H.out hc hl).mono ?_; rintro e w1 ⟨rfl, rfl⟩)
    go_ret
    exact ⟨rfl, 0, rfl⟩
  · have hn0 : 0 ≤ n := by omega
    have hd : decide (1073741824 < n) = true := by simpa using hn
    go_enter Try.func16, Try.ntmps16
    go_wp2_with (go_at_call 29; refine (has_yes pb b c r m s l _ H.out hc hl).mono ?_; rintro e w1 ⟨rfl, rfl⟩)
    go_ret
    exact ⟨rfl, 0, rfl⟩
set_option maxHeartbeats 400000 in
theorem fits_x (pb b c : Nat) (r m s n x : Int) (l : List Int) (w : World) (h : QAt w pb b r m s l) (hx : Hid (l[c]? = some x)) (hc : c < l.length) (hl : l.length ≤ 65536)
    (hr0 : 0 ≤ r) (hr1 : r ≤ 1073741824) (hs0 : -1125899906842624 ≤ s) (hs1 : s ≤ 1125899906842624) (hx0 : 0 ≤ x) (hx1 : x ≤ 1125899906842624) (hn0 : 0 ≤ n) (hn1 : n ≤ 1073741824) :
    Calls Try.prog 16 #[.pointer (some ⟨pb, 0, none⟩), .int .i64 c, .int .i64 n] w (Quiet (.bool (decide (moreQ r s x n ≤ m))) w) := by
  have o1 := overQ_range (n := x + n) hr0 (by omega)
  have o2 := overQ_range (n := x) hr0 (by omega)
  have hw1 : IntKind.i64.wrap (x + n) = x + n := IntWalk.i64_in _ (by omega)
  have hw2 : IntKind.i64.wrap (s + overQ r (x + n)) = s + overQ r (x + n) := IntWalk.i64_in _ (by omega)
  have hw3 : IntKind.i64.wrap (s + overQ r (x + n) - overQ r x) = s + overQ r (x + n) - overQ r x := IntWalk.i64_in _ (by omega)
  have HC : Hid (∀ (y : Int) (W : World), W.cell? ⟨pb, 0, none⟩ = some (.int .i64 r) → (y = x ∨ y = x + n) → Calls Try.prog 30 #[.pointer (some ⟨pb, 0, none⟩), .int .i64 y] W fun e w' => e = .returned (.int .i64 (overQ r y)) ∧ w' = W) := fun y W hW hy => over_any pb r y W hW hr0 hr1 (by omega) (by omega)
  have HM : Hid (moreQ r s x n = s + overQ r (x + n) - overQ r x) := by unfold moreQ; show _ = _; omega
  rw [HM.out]
  clear HM
  have c0 := h.c0
  have c1 := h.c1
  have c2 := h.c2
  have c3 := h.c3
  have hxc := h.at_ hx.out
  have H := Lib.hid h
  clear h
  clear o1 o2
  go_enter Try.func16, Try.ntmps16
  go_wp2_with (go_at_call 29; refine (has_yes pb b c r m s l _ H.out hc hl).mono ?_; rintro e w1 ⟨rfl, rfl⟩)
  go_quiet (exact Calls.quiet_of_same (HC.out _ _ (by simpa using c0) (by first | exact .inl rfl | exact .inr rfl)))
  go_wp2
  go_ret
  exact ⟨rfl, _, rfl⟩
theorem fits_any (pb b : Nat) (r m s c n : Int) (l : List Int) (w : World) (h : QAt w pb b r m s l) (hok : QOk r m s l) (hc : c ≤ 4611686018427387904) :
    Calls Try.prog 16 #[.pointer (some ⟨pb, 0, none⟩), .int .i64 c, .int .i64 n] w (Quiet (.bool (fitsB r m s l c n)) w) := by
  obtain ⟨hr0, hr1, hm0, hm1, hs0, hs1, hl, hx⟩ := hok
  by_cases h1 : c < 0 ∨ (l.length : Int) ≤ c
  · rw [fitsB_c h1]
    exact fits_no pb b r m s c n l w h h1 (by omega)
  · obtain ⟨c, rfl⟩ := Int.eq_ofNat_of_zero_le (show 0 ≤ c by omega)
    have hcl : c < l.length := by omega
    by_cases h2 : n < 0 ∨ 1073741824 < n
    · rw [fitsB_n h2]
      exact fits_n pb b c r m s n l w h hcl (by omega) h2
    · have he : l[c]? = some l[c] := List.getElem?_eq_getElem hcl
      obtain ⟨x0, x1⟩ := hx _ (List.getElem_mem hcl)
      rw [fitsB_x he (by omega) (by omega)]
      exact fits_x pb b c r m s n _ l w h he hcl (by omega) hr0 hr1 (by omega) hs1 x0 x1 (by omega) (by omega)
end Go.Proofs.Ytflgpbjhjomogaa.C
