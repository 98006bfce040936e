/- The walks of package quota over a quota that lies in memory. · The walks of quota.Add, Sub, Move, Bytes, Shared, New, over a quota that lies in memory. · The plain law of quotas: what additions, takings and moves do to the numbers. No program in sight. · The police in memory: where all of it lies, and what it has. · Turns: has, Wake. · The police: penalty, count, join. -/
import Derived.Test.YtpanmfdbdgecaaaGreatY7
import Derived.Test.YtpanmfdbdgecaaaGreatProg
import Derived.KernelRfl
import Derived.StillTailTactics
import Derived.Deep.QuietTactic
import Derived.BigQuiet
import Derived.Deep.DeepMust
import Derived.Outline
import Derived.Laws.MakeOwn
import Derived.ArgAppend
namespace Go.Proofs.YtpanmfdbdgecaaaGreat.C.QU
open Go.RowKit
set_option linter.unusedVariables false

def ints (l : List Int) : Array Value := (l.map (Value.int .i64)).toArray
theorem ints_size (l : List Int) : (ints l).size = l.length := by simp [ints]
theorem ints_at (l : List Int) (c : Nat) : (ints l)[c]? = (l[c]?).map (Value.int .i64) := by simp [ints]
theorem ints_set (l : List Int) (c : Nat) (x : Int) : (ints l).setIfInBounds c (.int .i64 x) = ints (l.set c x) := by
  apply Array.ext_getElem?
  intro j
  rw [ints_at, List.getElem?_set, Array.getElem?_setIfInBounds, ints_at, ints_size]
  split
  · split <;> rfl
  · rfl

/-- A quota in memory: its struct in block pb, its classes' numbers in block b. -/
structure QAt (w : World) (pb b : Nat) (r m s : Int) (l : List Int) : Prop where
  ptr : w.heap[pb]? = some (.cells #[.int .i64 r, .int .i64 m, .int .i64 s, .slice (some ⟨b, 0, none⟩) l.length l.length] 255 (0, 0))
  row : w.heap[b]? = some (.cells (ints l) 2 (0, 0))
section
variable {w : World} {pb b : Nat} {r m s : Int} {l : List Int}
theorem QAt.ne (h : QAt w pb b r m s l) : pb ≠ b := by
  rintro rfl
  have := h.ptr.symm.trans h.row
  injection this with this
  injection this with _ h2
  exact absurd h2 (by decide)
theorem QAt.c0 (h : QAt w pb b r m s l) : w.cell? ⟨pb, 0, none⟩ = some (.int .i64 r) := by rw [cell_of_row _ _ _ _ _ _ h.ptr]; rfl
theorem QAt.c1 (h : QAt w pb b r m s l) : w.cell? ⟨pb, 1, none⟩ = some (.int .i64 m) := by rw [cell_of_row _ _ _ _ _ _ h.ptr]; rfl
theorem QAt.c2 (h : QAt w pb b r m s l) : w.cell? ⟨pb, 2, none⟩ = some (.int .i64 s) := by rw [cell_of_row _ _ _ _ _ _ h.ptr]; rfl
theorem QAt.c3 (h : QAt w pb b r m s l) : w.cell? ⟨pb, 3, none⟩ = some (.slice (some ⟨b, 0, none⟩) l.length l.length) := by rw [cell_of_row _ _ _ _ _ _ h.ptr]; rfl
theorem QAt.at_ (h : QAt w pb b r m s l) {c : Nat} {x : Int} (hx : l[c]? = some x) : w.cell? ⟨b, c, none⟩ = some (.int .i64 x) := by rw [cell_of_row _ _ _ _ _ _ h.row, ints_at, hx]; rfl
theorem QAt.f (h : QAt w pb b r m s l) (j : Nat) : w.frozen? ⟨pb, j, none⟩ = false := frozen_of_row _ _ _ _ _ h.ptr
theorem QAt.fr (h : QAt w pb b r m s l) (j : Nat) : w.frozen? ⟨b, j, none⟩ = false := frozen_of_row _ _ _ _ _ h.row
theorem QAt.drewN (h : QAt w pb b r m s l) (n : Nat) : QAt (w.drewN n) pb b r m s l := ⟨h.ptr, h.row⟩
theorem QAt.setS (h : QAt w pb b r m s l) (s' : Int) : QAt (w.setCell ⟨pb, 2, none⟩ (.int .i64 s')) pb b r m s' l :=
  ⟨by rw [heap_setCell_same _ _ _ _ _ _ h.ptr]; rfl, by rw [heap_setCell_other _ _ _ _ (by simpa using h.ne.symm)]; exact h.row⟩
theorem QAt.setL (h : QAt w pb b r m s l) (c : Nat) (x : Int) : QAt (w.setCell ⟨b, c, none⟩ (.int .i64 x)) pb b r m s (l.set c x) :=
  ⟨by rw [heap_setCell_other _ _ _ _ (by simpa using h.ne), List.length_set]; exact h.ptr, by rw [heap_setCell_same _ _ _ _ _ _ h.row, ints_set]⟩
theorem QAt.two (h : QAt w pb b r m s l) {w' : World} {g k : Nat} (p : Two g k w w') (h1 : pb ≠ g) (h2 : pb ≠ k) (h3 : b ≠ g) (h4 : b ≠ k) : QAt w' pb b r m s l :=
  ⟨(p.block pb (Array.getElem?_eq_some_iff.1 h.ptr).1 h1 h2).trans h.ptr, (p.block b (Array.getElem?_eq_some_iff.1 h.row).1 h3 h4).trans h.row⟩
theorem QAt.below (h : QAt w pb b r m s l) {w' : World} (p : Below w.heap.size w w') : QAt w' pb b r m s l :=
  ⟨(p.block pb (Array.getElem?_eq_some_iff.1 h.ptr).1).trans h.ptr, (p.block b (Array.getElem?_eq_some_iff.1 h.row).1).trans h.row⟩
end

def overQ (r n : Int) : Int := if r < n then n - r else 0
theorem over_any (pb : Nat) (r n : Int) (w : World) (h0 : w.cell? ⟨pb, 0, none⟩ = some (.int .i64 r)) (hr0 : 0 ≤ r) (hr1 : r ≤ 1073741824) (hn0 : -4611686018427387904 ≤ n) (hn1 : n ≤ 4611686018427387904) :
    Calls Tryz.prog 167 #[.pointer (some ⟨pb, 0, none⟩), .int .i64 n] w fun e w' => e = .returned (.int .i64 (overQ r n)) ∧ w' = w := by
  by_cases h : r < n
  · have hv : overQ r n = n - r := by unfold overQ; rw [if_pos h]
    have HV := Lib.hid hv
    clear hv
    go_enter Tryz.func167, Tryz.ntmps167
    go_wp2
    go_ret
    exact ⟨by rw [HV.out]; rfl, rfl⟩
  · have hv : overQ r n = 0 := by unfold overQ; rw [if_neg h]
    have HV := Lib.hid hv
    clear hv
    go_enter Tryz.func167, Tryz.ntmps167
    go_wp2
    go_ret
    exact ⟨by rw [HV.out]; rfl, rfl⟩
/-- What the quota has shared behind 'n more of x'. -/
def moreQ (r s x n : Int) : Int := s + (overQ r (x + n) - overQ r x)

theorem has_no (pb b : Nat) (r m s c : Int) (l : List Int) (w : World) (h : QAt w pb b r m s l) (hc : c < 0 ∨ (l.length : Int) ≤ c) (hl : l.length ≤ 65536) :
    Calls Tryz.prog 153 #[.pointer (some ⟨pb, 0, none⟩), .int .i64 c] w fun e w' => e = .returned (.bool false) ∧ w' = w := by
  have c3 := h.c3
  clear h
  rcases hc with h | h
  · go_enter Tryz.func153, Tryz.ntmps153
    go_wp2
    go_ret
    exact ⟨rfl, rfl⟩
  · have h0 : 0 ≤ c := by omega
    have hd : decide (c < (l.length : Int)) = false := by simp; omega
    go_enter Tryz.func153, Tryz.ntmps153
    go_wp2
    go_ret
    exact ⟨rfl, rfl⟩
theorem has_yes (pb b c : Nat) (r m s : Int) (l : List Int) (w : World) (h : QAt w pb b r m s l) (hc : c < l.length) (hl : l.length ≤ 65536) :
    Calls Tryz.prog 153 #[.pointer (some ⟨pb, 0, none⟩), .int .i64 c] w fun e w' => e = .returned (.bool true) ∧ w' = w := by
  have c3 := h.c3
  clear h
  go_enter Tryz.func153, Tryz.ntmps153
  go_wp2
  go_ret
  exact ⟨rfl, rfl⟩

/-- The bounds under which nothing overflows. -/
def QOk (r m s : Int) (l : List Int) : Prop := 0 ≤ r ∧ r ≤ 1073741824 ∧ 0 ≤ m ∧ m ≤ 1073741824 ∧ -1125899906842624 ≤ s ∧ s ≤ 1125899906842624 ∧ l.length ≤ 129 ∧ ∀ x ∈ l, 0 ≤ x ∧ x ≤ 1125899906842624
theorem overQ_range {r n : Int} (hr : 0 ≤ r) (h : n ≤ 4503599627370496) : 0 ≤ overQ r n ∧ overQ r n ≤ 4503599627370496 := by unfold overQ; split <;> omega

set_option maxHeartbeats 800000 in
set_option maxRecDepth 100000 in
theorem put_any (pb b c : Nat) (r m s n x : Int) (l : List Int) (w : World) (h : QAt w pb b r m s l) (hx : Hid (l[c]? = some x)) (hc : c < l.length) (hl : l.length ≤ 65536)
    (hr0 : 0 ≤ r) (hr1 : r ≤ 1073741824) (hs0 : -1125899906842624 ≤ s) (hs1 : s ≤ 1125899906842624) (hx0 : 0 ≤ x) (hx1 : x ≤ 1125899906842624) (hn0 : -1125899906842624 ≤ n) (hn1 : n ≤ 1125899906842624) :
    Calls Tryz.prog 154 #[.pointer (some ⟨pb, 0, none⟩), .int .i64 c, .int .i64 n] w fun e w' => e = .returned (.tuple #[]) ∧ QAt w' pb b r m (moreQ r s x n) (l.set c (x + n)) ∧ Two pb b w w' := by
  have o1 := overQ_range (n := x + n) hr0 (by omega)
  have o2 := overQ_range (n := x) hr0 (by omega)
  have hw1 : IntKind.i64.wrap (x + n) = x + n := IntWalk.i64_in _ (by omega)
  have hw2 : IntKind.i64.wrap (overQ r (x + n) - overQ r x) = overQ r (x + n) - overQ r x := IntWalk.i64_in _ (by omega)
  have hw3 : IntKind.i64.wrap (s + (overQ r (x + n) - overQ r x)) = s + (overQ r (x + n) - overQ r x) := IntWalk.i64_in _ (by omega)
  have c1 := over_any pb r (x + n) w.drew (by simpa using h.c0) hr0 hr1 (by omega) (by omega)
  have c2 := over_any pb r x w.drew (by simpa using h.c0) hr0 hr1 (by omega) (by omega)
  have HM : Hid (moreQ r s x n = s + (overQ r (x + n) - overQ r x)) := rfl
  generalize moreQ r s x n = s' at HM ⊢
  have h' : QAt w.drew pb b r m s l := ⟨h.ptr, h.row⟩
  have p1 : Two pb b w w.drew := (Two.refl pb b w).drewN 1
  go_enter Tryz.func154, Tryz.ntmps154
  go_wp2_with fail
  refine wp_region_still_tail 28 (by kernel_rfl) (by kernel_rfl) ?_
  change wpStill _ _ w.drew (fun a' => wpList _ _ _ _ a' w.drew) _ _
  simp only [List.take_succ_cons, List.take_zero, List.drop_succ_cons, List.drop_zero]
  generalize overQ r (x + n) = v1 at *
  generalize overQ r x = v2 at *
  generalize w.drew = w2 at h' p1 c1 c2 ⊢
  have C1 := Lib.hid c1
  have C2 := Lib.hid c2
  clear h c1 c2 o1 o2
  have hxc := h'.at_ hx.out
  have q2 := h'.c2
  have q3 := h'.c3
  have f2 := h'.f 2
  have fc := h'.fr c
  iterate 14 still_step
  still_call C1.out
  iterate 8 still_step
  still_call C2.out
  iterate 4 still_step
  refine wpStill_nil ?_
  have h3 := h'.setS (s + (v1 - v2))
  have e1 := h3.at_ hx.out
  have e3 := h3.c3
  have ef := h3.fr c
  have H3 := Lib.hid h3
  clear C1 C2 hw2 hw3 h3
  go_wp2
  go_end0
  exact ⟨rfl, by rw [HM.out]; exact H3.out.setL c (x + n), (p1.setCell (.inl rfl) _).setCell (.inr rfl) _⟩

/-- May class c have n more? -/
def fitsB (r m s : Int) (l : List Int) (c n : Int) : Bool :=
  decide (0 ≤ c) && decide (0 ≤ n) && decide (n ≤ 1073741824) && (match l[c.toNat]? with | some x => decide (moreQ r s x n ≤ m) | none => false)
theorem fitsB_c {r m s : Int} {l : List Int} {c n : Int} (h : c < 0 ∨ (l.length : Int) ≤ c) : fitsB r m s l c n = false := by
  unfold fitsB
  rcases h with h | h
  · simp; omega
  · rw [List.getElem?_eq_none (by omega)]; simp
theorem fitsB_n {r m s : Int} {l : List Int} {c n : Int} (h : n < 0 ∨ 1073741824 < n) : fitsB r m s l c n = false := by
  unfold fitsB
  rcases h with h | h
  · rw [show decide (0 ≤ n) = false by simp; omega]; simp
  · rw [show decide (n ≤ 1073741824) = false by simp; omega]; simp
theorem fitsB_x {r m s : Int} {l : List Int} {c : Nat} {n x : Int} (h : l[c]? = some x) (h0 : 0 ≤ n) (h1 : n ≤ 1073741824) : fitsB r m s l c n = decide (moreQ r s x n ≤ m) := by
  unfold fitsB
  simp [h, h0, h1]
def Quiet (v : Value) (w : World) (e : Ending) (w' : World) : Prop := e = .returned v ∧ ∃ k, w' = w.drewN k

theorem fits_no (pb b : Nat) (r m s c n : Int) (l : List Int) (w : World) (h : QAt w pb b r m s l) (hc : c < 0 ∨ (l.length : Int) ≤ c) (hl : l.length ≤ 65536) :
    Calls Tryz.prog 131 #[.pointer (some ⟨pb, 0, none⟩), .int .i64 c, .int .i64 n] w (Quiet (.bool false) w) := by
  have H := Lib.hid h
  clear h
  go_enter Tryz.func131, Tryz.ntmps131
  go_wp2_with (go_at_call 153; refine (has_no pb b r m s c l _ H.out hc hl).mono ?_; rintro e w1 ⟨rfl, rfl⟩)
  go_ret
  exact ⟨rfl, 0, rfl⟩
theorem fits_n (pb b c : Nat) (r m s n : Int) (l : List Int) (w : World) (h : QAt w pb b r m s l) (hc : c < l.length) (hl : l.length ≤ 65536) (hn : n < 0 ∨ 1073741824 < n) :
    Calls Tryz.prog 131 #[.pointer (some ⟨pb, 0, none⟩), .int .i64 c, .int .i64 n] w (Quiet (.bool false) w) := by
  have H := Lib.hid h
  clear h
  rcases hn with hn | hn
  · go_enter Tryz.func131, Tryz.ntmps131
    go_wp2_with (go_at_call 153; refine (has_yes pb b c r m s l _ H.out hc hl).mono ?_; rintro e w1 ⟨rfl, rfl⟩)
    go_ret
    exact ⟨rfl, 0, rfl⟩
  · have hn0 : 0 ≤ n := by omega
    have hd : decide (1073741824 < n) = true := by simpa using hn
    go_enter Tryz.func131, Tryz.ntmps131
    go_wp2_with (go_at_call 153; refine (has_yes pb b c r m s l _ H.out hc hl).mono ?_; rintro e w1 ⟨rfl, rfl⟩)
    go_ret
    exact ⟨rfl, 0, rfl⟩
set_option maxHeartbeats 400000 in
theorem fits_x (pb b c : Nat) (r m s n x : Int) (l : List Int) (w : World) (h : QAt w pb b r m s l) (hx : Hid (l[c]? = some x)) (hc : c < l.length) (hl : l.length ≤ 65536)
    (hr0 : 0 ≤ r) (hr1 : r ≤ 1073741824) (hs0 : -1125899906842624 ≤ s) (hs1 : s ≤ 1125899906842624) (hx0 : 0 ≤ x) (hx1 : x ≤ 1125899906842624) (hn0 : 0 ≤ n) (hn1 : n ≤ 1073741824) :
    Calls Tryz.prog 131 #[.pointer (some ⟨pb, 0, none⟩), .int .i64 c, .int .i64 n] w (Quiet (.bool (decide (moreQ r s x n ≤ m))) w) := by
  have o1 := overQ_range (n := x + n) hr0 (by omega)
  have o2 := overQ_range (n := x) hr0 (by omega)
  have hw1 : IntKind.i64.wrap (x + n) = x + n := IntWalk.i64_in _ (by omega)
  have hw2 : IntKind.i64.wrap (s + overQ r (x + n)) = s + overQ r (x + n) := IntWalk.i64_in _ (by omega)
  have hw3 : IntKind.i64.wrap (s + overQ r (x + n) - overQ r x) = s + overQ r (x + n) - overQ r x := IntWalk.i64_in _ (by omega)
  have HC : Hid (∀ (y : Int) (W : World), W.cell? ⟨pb, 0, none⟩ = some (.int .i64 r) → (y = x ∨ y = x + n) → Calls Tryz.prog 167 #[.pointer (some ⟨pb, 0, none⟩), .int .i64 y] W fun e w' => e = .returned (.int .i64 (overQ r y)) ∧ w' = W) := fun y W hW hy => over_any pb r y W hW hr0 hr1 (by omega) (by omega)
  have HM : Hid (moreQ r s x n = s + overQ r (x + n) - overQ r x) := by unfold moreQ; show _ = _; omega
  rw [HM.out]
  clear HM
  have c0 := h.c0
  have c1 := h.c1
  have c2 := h.c2
  have c3 := h.c3
  have hxc := h.at_ hx.out
  have H := Lib.hid h
  clear h
  clear o1 o2
  go_enter Tryz.func131, Tryz.ntmps131
  go_wp2_with (go_at_call 153; refine (has_yes pb b c r m s l _ H.out hc hl).mono ?_; rintro e w1 ⟨rfl, rfl⟩)
  go_quiet (exact Calls.quiet_of_same (HC.out _ _ (by simpa using c0) (by first | exact .inl rfl | exact .inr rfl)))
  go_wp2
  go_ret
  exact ⟨rfl, _, rfl⟩
theorem fits_any (pb b : Nat) (r m s c n : Int) (l : List Int) (w : World) (h : QAt w pb b r m s l) (hok : QOk r m s l) (hc : c ≤ 4611686018427387904) :
    Calls Tryz.prog 131 #[.pointer (some ⟨pb, 0, none⟩), .int .i64 c, .int .i64 n] w (Quiet (.bool (fitsB r m s l c n)) w) := by
  obtain ⟨hr0, hr1, hm0, hm1, hs0, hs1, hl, hx⟩ := hok
  by_cases h1 : c < 0 ∨ (l.length : Int) ≤ c
  · rw [fitsB_c h1]
    exact fits_no pb b r m s c n l w h h1 (by omega)
  · obtain ⟨c, rfl⟩ := Int.eq_ofNat_of_zero_le (show 0 ≤ c by omega)
    have hcl : c < l.length := by omega
    by_cases h2 : n < 0 ∨ 1073741824 < n
    · rw [fitsB_n h2]
      exact fits_n pb b c r m s n l w h hcl (by omega) h2
    · have he : l[c]? = some l[c] := List.getElem?_eq_getElem hcl
      obtain ⟨x0, x1⟩ := hx _ (List.getElem_mem hcl)
      rw [fitsB_x he (by omega) (by omega)]
      exact fits_x pb b c r m s n _ l w h he hcl (by omega) hr0 hr1 (by omega) hs1 x0 x1 (by omega) (by omega)
end Go.Proofs.YtpanmfdbdgecaaaGreat.C.QU

namespace Go.Proofs.YtpanmfdbdgecaaaGreat.C.QU
open Go.RowKit
set_option linter.unusedVariables false

/-- What is behind 'class c has n more'. -/
def putS (r s : Int) (l : List Int) (c n : Int) : Int := moreQ r s (l.getD c.toNat 0) n
def putL (l : List Int) (c n : Int) : List Int := l.set c.toNat (l.getD c.toNat 0 + n)
def addS (r m s : Int) (l : List Int) (c n : Int) : Int := if fitsB r m s l c n then putS r s l c n else s
def addL (r m s : Int) (l : List Int) (c n : Int) : List Int := if fitsB r m s l c n then putL l c n else l
def hasB (l : List Int) (c : Int) : Bool := decide (0 ≤ c) && decide (c < (l.length : Int))
def takesB (l : List Int) (c n : Int) : Bool := hasB l c && decide (0 ≤ n) && decide (n ≤ l.getD c.toNat 0)
def subS (r s : Int) (l : List Int) (c n : Int) : Int := if takesB l c n then putS r s l c (-n) else s
def subL (l : List Int) (c n : Int) : List Int := if takesB l c n then putL l c (-n) else l
theorem fits_in {r m s : Int} {l : List Int} {c n : Int} (h : fitsB r m s l c n = true) : 0 ≤ c ∧ c.toNat < l.length ∧ 0 ≤ n ∧ n ≤ 1073741824 ∧ putS r s l c n ≤ m := by
  unfold fitsB at h
  simp only [Bool.and_eq_true, decide_eq_true_eq] at h
  obtain ⟨⟨⟨h1, h2⟩, h3⟩, h4⟩ := h
  cases hx : l[c.toNat]? with
  | none => rw [hx] at h4; cases h4
  | some x =>
    rw [hx] at h4
    have hlt : c.toNat < l.length := by
      rcases Nat.lt_or_ge c.toNat l.length with h | h
      · exact h
      · rw [List.getElem?_eq_none h] at hx; cases hx
    refine ⟨h1, hlt, h2, h3, ?_⟩
    unfold putS
    rw [List.getD_eq_getElem?_getD, hx]
    simpa using h4
theorem getD_range {r m s : Int} {l : List Int} (hok : QOk r m s l) (c : Nat) : 0 ≤ l.getD c 0 ∧ l.getD c 0 ≤ 1125899906842624 := by
  obtain ⟨_, _, _, _, _, _, _, h⟩ := hok
  rw [List.getD_eq_getElem?_getD]
  cases hx : l[c]? with
  | none => simp
  | some x => simpa using h x (List.mem_of_getElem? hx)

/-- put, at whatever class there is. -/
theorem put_at (pb b : Nat) (r m s c n : Int) (l : List Int) (w : World) (h : QAt w pb b r m s l) (hok : QOk r m s l) (hc0 : 0 ≤ c) (hc : c.toNat < l.length) (hn0 : -1125899906842624 ≤ n) (hn1 : n ≤ 1125899906842624) :
    Calls Tryz.prog 154 #[.pointer (some ⟨pb, 0, none⟩), .int .i64 c, .int .i64 n] w fun e w' => e = .returned (.tuple #[]) ∧ QAt w' pb b r m (putS r s l c n) (putL l c n) ∧ Two pb b w w' := by
  obtain ⟨x0, x1⟩ := getD_range hok c.toNat
  obtain ⟨hr0, hr1, hm0, hm1, hs0, hs1, hl, hx⟩ := hok
  obtain ⟨c, rfl⟩ := Int.eq_ofNat_of_zero_le hc0
  have hc' : c < l.length := by simpa using hc
  have he : l[c]? = some (l.getD c 0) := by rw [List.getD_eq_getElem?_getD, List.getElem?_eq_getElem hc']; rfl
  unfold putS putL
  rw [Int.toNat_natCast] at x0 x1 ⊢
  exact put_any pb b c r m s n _ l w h he hc' (by omega) hr0 hr1 (by omega) hs1 x0 x1 hn0 hn1

set_option maxHeartbeats 400000 in
theorem add_any (pb b : Nat) (r m s c n : Int) (l : List Int) (w : World) (h : QAt w pb b r m s l) (hok : QOk r m s l) (hc : c ≤ 4611686018427387904) :
    Calls Tryz.prog 132 #[.pointer (some ⟨pb, 0, none⟩), .int .i64 c, .int .i64 n] w fun e w' => e = .returned (.bool (fitsB r m s l c n)) ∧ QAt w' pb b r m (addS r m s l c n) (addL r m s l c n) ∧ Two pb b w w' := by
  have C1 := Lib.hid (fits_any pb b r m s c n l w h hok hc)
  unfold addS addL
  cases hf : fitsB r m s l c n with
  | false =>
    rw [hf] at C1
    have H := Lib.hid h
    clear h hf hok hc
    simp only [Bool.false_eq_true, if_false]
    go_enter Tryz.func132, Tryz.ntmps132
    go_wp2_with fail
    refine C1.out.mono ?_
    rintro e w1 ⟨rfl, k, rfl⟩
    go_wp2
    go_ret
    exact ⟨rfl, H.out.drewN k, (Two.refl _ _ _).drewN k⟩
  | true =>
    rw [hf] at C1
    obtain ⟨h1, h2, h3, h4, _⟩ := fits_in hf
    have C2 : Hid (∀ k, Calls Tryz.prog 154 #[.pointer (some ⟨pb, 0, none⟩), .int .i64 c, .int .i64 n] (w.drewN k) fun e w' => e = .returned (.tuple #[]) ∧ QAt w' pb b r m (putS r s l c n) (putL l c n) ∧ Two pb b (w.drewN k) w') :=
      fun k => put_at pb b r m s c n l (w.drewN k) (h.drewN k) hok h1 h2 (by omega) (by omega)
    clear h hf hok hc h1 h2 h3 h4
    simp only [if_true]
    go_enter Tryz.func132, Tryz.ntmps132
    go_wp2_with fail
    refine C1.out.mono ?_
    rintro e w1 ⟨rfl, k, rfl⟩
    go_wp2_with fail
    refine (C2.out k).mono ?_
    rintro e w2 ⟨rfl, hq, ht⟩
    go_wp2
    go_ret
    exact ⟨rfl, hq, ((Two.refl _ _ w).drewN k).trans ht⟩

/-- has, at whatever number. -/
theorem has_any (pb b : Nat) (r m s c : Int) (l : List Int) (w : World) (h : QAt w pb b r m s l) (hl : l.length ≤ 65536) :
    Calls Tryz.prog 153 #[.pointer (some ⟨pb, 0, none⟩), .int .i64 c] w fun e w' => e = .returned (.bool (hasB l c)) ∧ w' = w := by
  unfold hasB
  by_cases h0 : c < 0
  · rw [show decide (0 ≤ c) = false by simp; omega]
    exact has_no pb b r m s c l w h (.inl h0) hl
  · by_cases h1 : (l.length : Int) ≤ c
    · rw [show decide (c < (l.length : Int)) = false by simp; omega, Bool.and_false]
      exact has_no pb b r m s c l w h (.inr h1) hl
    · rw [show decide (0 ≤ c) = true by simp; omega, show decide (c < (l.length : Int)) = true by simp; omega]
      obtain ⟨c, rfl⟩ := Int.eq_ofNat_of_zero_le (show 0 ≤ c by omega)
      exact has_yes pb b c r m s l w h (by omega) hl
set_option maxHeartbeats 400000 in
theorem sub_any (pb b : Nat) (r m s c n : Int) (l : List Int) (w : World) (h : QAt w pb b r m s l) (hok : QOk r m s l) (hn : n ≤ 9223372036854775807) (hn' : -9223372036854775808 ≤ n) :
    Calls Tryz.prog 137 #[.pointer (some ⟨pb, 0, none⟩), .int .i64 c, .int .i64 n] w fun e w' => e = .returned (.bool (takesB l c n)) ∧ QAt w' pb b r m (subS r s l c n) (subL l c n) ∧ Two pb b w w' := by
  have C := Lib.hid (has_any pb b r m s c l w h (by obtain ⟨_, _, _, _, _, _, h, _⟩ := hok; omega))
  unfold subS subL takesB
  cases hf : hasB l c with
  | false =>
    rw [hf] at C
    have H := Lib.hid h
    clear h hf hok
    simp only [Bool.false_and, Bool.false_eq_true, if_false]
    go_enter Tryz.func137, Tryz.ntmps137
    go_wp2_with fail
    refine C.out.mono ?_
    rintro e w1 ⟨rfl, rfl⟩
    go_wp2
    go_ret
    exact ⟨rfl, H.out, Two.refl _ _ _⟩
  | true =>
    rw [hf] at C
    unfold hasB at hf
    simp only [Bool.and_eq_true, decide_eq_true_eq] at hf
    obtain ⟨hc0, hc1⟩ := hf
    obtain ⟨x0, x1⟩ := getD_range hok c.toNat
    obtain ⟨c, rfl⟩ := Int.eq_ofNat_of_zero_le hc0
    have hc' : c < l.length := by omega
    have he : l[c]? = some (l.getD c 0) := by rw [List.getD_eq_getElem?_getD, List.getElem?_eq_getElem hc']; rfl
    have c3 := h.c3
    have hxc := h.at_ he
    have C2 : Hid (-1125899906842624 ≤ -n → -n ≤ 0 → Calls Tryz.prog 154 #[.pointer (some ⟨pb, 0, none⟩), .int .i64 c, .int .i64 (-n)] w fun e w' => e = .returned (.tuple #[]) ∧ QAt w' pb b r m (putS r s l c (-n)) (putL l c (-n)) ∧ Two pb b w w') :=
      fun h1 h2 => put_at pb b r m s c (-n) l w h hok (by omega) (by simpa using hc') h1 (by omega)
    have H := Lib.hid h
    simp only [Int.toNat_natCast, Bool.true_and] at x0 x1 ⊢
    clear h he hok
    obtain ⟨x, hx⟩ : ∃ x, l.getD c 0 = x := ⟨_, rfl⟩
    rw [hx] at x0 x1 hxc
    have HX := Lib.hid hx
    clear hx
    by_cases h0 : n < 0
    · rw [show decide (0 ≤ n) = false by simp; omega]
      simp only [Bool.false_and, Bool.false_eq_true, if_false]
      go_enter Tryz.func137, Tryz.ntmps137
      go_wp2_with fail
      refine C.out.mono ?_
      rintro e w1 ⟨rfl, rfl⟩
      go_wp2
      go_ret
      exact ⟨rfl, H.out, Two.refl _ _ _⟩
    · have h0' : 0 ≤ n := by omega
      rw [show decide (0 ≤ n) = true by simp; omega]
      by_cases h1 : n ≤ x
      · have h2 := C2.out (by omega) (by omega)
        have C2' := Lib.hid h2
        have hd : decide (n ≤ x) = true := by simpa using h1
        clear C2 h2
        have hg : decide (n ≤ l.getD c 0) = true := decide_eq_true (by rw [HX.out]; exact h1)
        rw [hg]
        clear hg
        simp only [Bool.true_and, if_true]
        go_enter Tryz.func137, Tryz.ntmps137
        go_wp2_with fail
        refine C.out.mono ?_
        rintro e w1 ⟨rfl, rfl⟩
        go_wp2_with fail
        refine C2'.out.mono ?_
        rintro e w2 ⟨rfl, hq, ht⟩
        go_wp2
        go_ret
        exact ⟨rfl, hq, ht⟩
      · have hd : decide (n ≤ x) = false := by simp; omega
        have hg : decide (n ≤ l.getD c 0) = false := decide_eq_false (by rw [HX.out]; exact h1)
        rw [hg]
        clear hg
        simp only [Bool.true_and, Bool.false_eq_true, if_false]
        go_enter Tryz.func137, Tryz.ntmps137
        go_wp2_with fail
        refine C.out.mono ?_
        rintro e w1 ⟨rfl, rfl⟩
        go_wp2
        go_ret
        exact ⟨rfl, H.out, Two.refl _ _ _⟩

theorem made_ints (n : Nat) : madeCells #[.int .i64 0] n = ints (List.replicate n 0) := by
  apply Array.toList_inj.1
  rw [toList_madeCells_one]
  simp [ints]
theorem make_ints (n : Nat) (hn : n ≤ 65536) (W : World) : (Instr.makeSlice 69 (.int .i64 (n : Int)) (.int .i64 (n : Int))).run Tryz.prog W = .ok (.slice (some ⟨W.heap.size, 0, none⟩) n n) (W.alloc (.cells (ints (List.replicate n 0)) 2)) := by
  obtain ⟨i0, hi, hz0, hz1, hz2⟩ := info_parts (show (Tryz.prog.info? 2).map (fun i => (i.zero, i.size, i.bytes)) = some (some (.int .i64 0), 1, 8) by kernel_rfl)
  have hr := run_make (P := Tryz.prog) W 69 2 i0 (.int .i64 0) Tryz.underlying69 hi hz0 .i64 .i64 n n (by omega) (by omega) (by rw [hz2]; omega) (by omega)
  simp only [Int.toNat_natCast] at hr
  rw [hr, hz1, Nat.mul_one]
  show _ = Result.ok _ (W.alloc (.cells (ints (List.replicate n 0)) 2))
  rw [← made_ints]
  rfl
theorem new_ok (n : Nat) (r m : Int) (w : World) (h1 : 1 ≤ n) (h2 : n ≤ 129) (h3 : 0 ≤ r) (h4 : r ≤ 1073741824) (h5 : 0 ≤ m) (h6 : m ≤ 1073741824) :
    Calls Tryz.prog 61 #[.int .i64 n, .int .i64 r, .int .i64 m] w fun e w' => e = .returned (.tuple #[.pointer (some ⟨w.heap.size + 1, 0, none⟩), .int .i64 0]) ∧ QAt w' (w.heap.size + 1) w.heap.size r m 0 (List.replicate n 0) ∧ Below w.heap.size w w' := by
  have hmk := make_ints n (by omega)
  go_enter Tryz.func61, Tryz.ntmps61
  go_wp2
  go_ret2
  refine ⟨rfl, ⟨?_, ?_⟩, ((Below.refl _ _).alloc (Nat.le_refl _) _).alloc (by simp) _⟩
  · rw [heap_alloc2_new, List.length_replicate]
  · rw [heap_alloc2_old]
end Go.Proofs.YtpanmfdbdgecaaaGreat.C.QU

namespace Go.Proofs.YtpanmfdbdgecaaaGreat.C.QU
open Go.RowKit
set_option linter.unusedVariables false

theorem overQ_mono {r x y : Int} (h : x ≤ y) : overQ r x ≤ overQ r y := by unfold overQ; split <;> split <;> omega
theorem overQ_le {r x y : Int} (h : x ≤ y) : overQ r y ≤ overQ r x + (y - x) := by unfold overQ; split <;> split <;> omega
/-- Behind k additions. -/
structure InvA (r m : Int) (k : Nat) (s : Int) (l : List Int) : Prop where
  s0 : 0 ≤ s
  s1 : s ≤ m
  l0 : ∀ x ∈ l, 0 ≤ x ∧ x ≤ (k : Int) * 1073741824
theorem InvA.zero {r m : Int} (n : Nat) (hm : 0 ≤ m) : InvA r m 0 0 (List.replicate n 0) := ⟨by omega, hm, fun x hx => by obtain ⟨_, rfl⟩ := List.mem_replicate.1 hx; omega⟩
theorem InvA.ok {r m : Int} {k : Nat} {s : Int} {l : List Int} (h : InvA r m k s l) (hr : 0 ≤ r ∧ r ≤ 1073741824) (hm : m ≤ 1073741824) (hk : k ≤ 100000) (hl : l.length ≤ 129) : QOk r m s l :=
  ⟨hr.1, hr.2, by have := h.s0; have := h.s1; omega, hm, by have := h.s0; omega, by have := h.s1; omega, hl, fun x hx => by have := h.l0 x hx; omega⟩
theorem mem_set {l : List Int} {c : Nat} {y x : Int} (h : x ∈ l.set c y) : x = y ∨ x ∈ l := by
  rcases List.mem_or_eq_of_mem_set h with h | h
  · exact .inr h
  · exact .inl h
theorem InvA.get {r m : Int} {k : Nat} {s : Int} {l : List Int} (h : InvA r m k s l) (c : Nat) : 0 ≤ l.getD c 0 ∧ l.getD c 0 ≤ (k : Int) * 1073741824 := by
  rw [List.getD_eq_getElem?_getD]
  cases hx : l[c]? with
  | none => simp; omega
  | some x => simpa using h.l0 x (List.mem_of_getElem? hx)
theorem InvA.add {r m : Int} {k : Nat} {s : Int} {l : List Int} (h : InvA r m k s l) (c n : Int) : InvA r m (k + 1) (addS r m s l c n) (addL r m s l c n) := by
  unfold addS addL
  cases hf : fitsB r m s l c n with
  | false => exact ⟨by simpa using h.s0, by simpa using h.s1, fun x hx => by have := h.l0 x (by simpa using hx); omega⟩
  | true =>
    obtain ⟨h1, h2, h3, h4, h5⟩ := fits_in hf
    simp only [if_true]
    have g := h.get c.toNat
    refine ⟨?_, h5, fun x hx => ?_⟩
    · unfold putS moreQ
      have := overQ_mono (r := r) (show l.getD c.toNat 0 ≤ l.getD c.toNat 0 + n by omega)
      have := h.s0
      omega
    · unfold putL at hx
      rcases mem_set hx with rfl | hx
      · omega
      · have := h.l0 x hx; omega
theorem InvA.up {r m : Int} {k : Nat} {s : Int} {l : List Int} (h : InvA r m k s l) : InvA r m (k + 1) s l := ⟨h.s0, h.s1, fun x hx => by have := h.l0 x hx; omega⟩

end Go.Proofs.YtpanmfdbdgecaaaGreat.C.QU

namespace Go.Proofs.YtpanmfdbdgecaaaGreat.C
open Go.RowKit
set_option linter.unusedVariables false
/-- Only blocks of some kinds may have turned. -/
structure Tur (f : Nat → Nat) (ks : List Nat) (w w' : World) : Prop where
  os : w'.os = w.os
  tape : w'.tape = w.tape
  output : w'.output = w.output
  size : w.heap.size ≤ w'.heap.size
  block : ∀ k, k < w.heap.size → f k ∉ ks → w'.heap[k]? = w.heap[k]?
section
variable {f : Nat → Nat} {ks js : List Nat} {a b c : World}
theorem Tur.refl (f : Nat → Nat) (ks : List Nat) (w : World) : Tur f ks w w := ⟨rfl, rfl, rfl, Nat.le_refl _, fun _ _ _ => rfl⟩
theorem Tur.trans (p : Tur f ks a b) (q : Tur f ks b c) : Tur f ks a c :=
  ⟨q.os.trans p.os, q.tape.trans p.tape, q.output.trans p.output, Nat.le_trans p.size q.size, fun k hk h => (q.block k (Nat.lt_of_lt_of_le hk p.size) h).trans (p.block k hk h)⟩
theorem Tur.sub (p : Tur f ks a b) (h : ∀ k ∈ ks, k ∈ js) : Tur f js a b := ⟨p.os, p.tape, p.output, p.size, fun k hk hn => p.block k hk fun hm => hn (h _ hm)⟩
theorem Tur.of_amg {bs : List Nat} (p : Amg bs a b) (h : ∀ k ∈ bs, f k ∈ ks) : Tur f ks a b := ⟨p.os, p.tape, p.output, p.size, fun k hk hn => p.block k hk fun hm => hn (h k hm)⟩
theorem Tur.of_below (p : Below a.heap.size a b) : Tur f ks a b := ⟨p.os, p.tape, p.output, p.size, fun k hk _ => p.block k hk⟩
theorem Tur.of_two {g h : Nat} (p : Two g h a b) (hg : f g ∈ ks) (hh : f h ∈ ks) : Tur f ks a b := ⟨p.os, p.tape, p.output, p.size, fun k hk hn => p.block k hk (fun e => hn (e ▸ hg)) (fun e => hn (e ▸ hh))⟩
theorem Tur.keep (p : Tur f ks a b) {k : Nat} {o : Obj} (h : a.heap[k]? = some o) (hn : f k ∉ ks) : b.heap[k]? = some o := (p.block k (Array.getElem?_eq_some_iff.1 h).1 hn).trans h
theorem Tur.drew (p : Tur f ks a b) : Tur f ks a b.drew := ⟨p.os, p.tape, p.output, p.size, p.block⟩
theorem Tur.below (p : Tur f ks a b) (q : Below b.heap.size b c) : Tur f ks a c := p.trans (Tur.of_below q)
theorem GnAt.tur {g n : Nat} {kv G : Array Value} (h : GnAt a g n kv G) (p : Tur f ks a b) (h1 : f g ∉ ks) : GnAt b g n kv G := ⟨p.keep h.ptr h1, h.size, h.c0, h.key, h.old, h.mov⟩
theorem QU.QAt.tur {x y : Nat} {r m s : Int} {l : List Int} (h : QU.QAt a x y r m s l) (p : Tur f ks a b) (h1 : f x ∉ ks) (h2 : f y ∉ ks) : QU.QAt b x y r m s l := ⟨p.keep h.ptr h1, p.keep h.row h2⟩
theorem TnAt.tur {x y z : Nat} {q : Int} {l : List Tcl} {line : List Nat} (h : TnAt a x y z q l line) (p : Tur f ks a b) (h1 : f x ∉ ks) (h2 : f y ∉ ks) (h3 : f z ∉ ks) : TnAt b x y z q l line := by
  obtain ⟨C, c1, c2⟩ := h.lin
  exact ⟨p.keep h.ptr h1, p.keep h.row h2, ⟨C, p.keep c1 h3, c2⟩, h.len⟩
theorem BlAt.tur {x y : Nat} {l : List Bin} {lv bn : Nat} {tg hd up dn : Int} (h : BlAt a x y l lv bn tg hd up dn) (p : Tur f ks a b) (h1 : f x ∉ ks) (h2 : f y ∉ ks) : BlAt b x y l lv bn tg hd up dn := ⟨p.keep h.ptr h1, p.keep h.row h2, h.len⟩
theorem SkAt.tur {x y : Nat} {l : List Slt} {room : Nat} {t : Int} (h : SkAt a x y l room t) (p : Tur f ks a b) (h1 : f x ∉ ks) (h2 : f y ∉ ks) : SkAt b x y l room t := by
  obtain ⟨C, c1, c2⟩ := h.row
  exact ⟨p.keep h.ptr h1, ⟨C, p.keep c1 h2, c2⟩, h.len, h.pre⟩
theorem WiAt.tur {x y z : Nat} {l : List Slt} {room : Nat} {t ns thr num : Int} (h : WiAt a x y z l room t ns thr num) (p : Tur f ks a b) (h1 : f x ∉ ks) (h2 : f y ∉ ks) (h3 : f z ∉ ks) : WiAt b x y z l room t ns thr num := ⟨p.keep h.ptr h1, h.sk.tur p h2 h3⟩
theorem TbAt.tur {x y : Nat} {l : List Plc} {room : Nat} {n : Int} (h : TbAt a x y l room n) (p : Tur f ks a b) (h1 : f x ∉ ks) (h2 : f y ∉ ks) : TbAt b x y l room n := ⟨p.keep h.ptr h1, p.keep h.row h2, h.len, h.pre⟩
theorem BxAt.tur {x y z : Nat} {l : List Plc} {room : Nat} {n term rate burst : Int} (h : BxAt a x y z l room n term rate burst) (p : Tur f ks a b) (h1 : f x ∉ ks) (h2 : f y ∉ ks) (h3 : f z ∉ ks) : BxAt b x y z l room n term rate burst := ⟨p.keep h.ptr h1, h.tb.tur p h2 h3⟩
theorem TkAt.tur {x : Nat} {r m l n : Int} (h : TkAt a x r m l n) (p : Tur f ks a b) (h1 : f x ∉ ks) : TkAt b x r m l n := p.keep h h1
theorem Sto.tur {s : Adr} {L : List (List (Array Value))} {R : Nat} (h : Sto a s L R) (p : Tur f ks a b) (h1 : ∀ x ∈ s.sb :: s.pb :: s.bs, f x ∉ ks) : Sto b s L R := by
  obtain ⟨A, fl, Q, h⟩ := h
  obtain ⟨e1, e2, l, hS, hS2⟩ := h.slab
  obtain ⟨ln, lk, hC, hC2⟩ := h.chain
  have q : ∀ x, x ∈ s.sb :: s.pb :: s.bs → ∀ {o : Obj}, a.heap[x]? = some o → b.heap[x]? = some o := fun x hx o ho => p.keep ho (h1 x hx)
  exact ⟨A, fl, Q, q _ (by simp) h.ptr, ⟨e1, e2, l, ⟨q _ (by simp [Adr.bs]) hS.ptr, q _ (by simp [Adr.bs]) hS.row, hS.ok⟩, hS2⟩, ⟨ln, lk, ⟨q _ (by simp) hC.ptr, q _ (by simp [Adr.bs]) hC.r1, q _ (by simp [Adr.bs]) hC.r2⟩, hC2⟩, q _ (by simp [Adr.bs]) h.bytes, h.lk⟩
end
/-- Where the police's parts lie; the kind of each block. -/
structure PAd where
  pb : Nat
  gb : Nat
  st : Adr
  qb : Nat
  qr : Nat
  tb : Nat
  t1 : Nat
  t2 : Nat
  u0 : Nat
  v0 : Nat
  u1 : Nat
  v1 : Nat
  wb : Nat
  ws : Nat
  wr : Nat
  xb : Nat
  xt : Nat
  xr : Nat
  tg : Nat → Nat
  lim : Nat
structure PAd.Ok (A : PAd) : Prop where
  pb : A.tg A.pb = 1
  gb : A.tg A.gb = 2
  st : ∀ x ∈ A.st.sb :: A.st.pb :: A.st.bs, A.tg x = 3
  q : A.tg A.qb = 4 ∧ A.tg A.qr = 4
  t : A.tg A.tb = 5 ∧ A.tg A.t1 = 5 ∧ A.tg A.t2 = 5
  b0 : A.tg A.u0 = 6 ∧ A.tg A.v0 = 6
  b1 : A.tg A.u1 = 7 ∧ A.tg A.v1 = 7
  w : A.tg A.wb = 8 ∧ A.tg A.ws = 8 ∧ A.tg A.wr = 8
  x : A.tg A.xb = 9 ∧ A.tg A.xt = 9 ∧ A.tg A.xr = 9
  hi : ∀ k, A.lim ≤ k → A.tg k = 0
/-- What the police has. -/
structure PSt where
  L : List (List (Array Value))
  sh : Int
  ql : List Int
  tl : List Tcl
  line : List Nat
  b0 : List Bin
  b1 : List Bin
  wl : List Slt
  wt : Int
  wn : Int
  xl : List Plc
  xn : Int
  arr : Int
  tk : Nat → Option (Int × Int)
def polC (A : PAd) (cv : Array Value) (arr : Int) : Array Value := cv ++ #[.pointer (some ⟨A.gb, 0, none⟩), .pointer (some ⟨A.st.sb, 0, none⟩), .pointer (some ⟨A.qb, 0, none⟩), .pointer (some ⟨A.tb, 0, none⟩), .pointer (some ⟨A.u0, 0, none⟩), .pointer (some ⟨A.u1, 0, none⟩), .pointer (some ⟨A.wb, 0, none⟩), .pointer (some ⟨A.xb, 0, none⟩), .int .i64 arr]
/-- A config that may be, and its numbers. -/
structure PCf where
  cv : Array Value
  c : Nat → Int
  kv : Array Value
  G : Array Value
structure PCf.Ok (F : PCf) : Prop where
  cfg : Cfg F.cv F.c
  right : RightC F.c
structure Pol (w : World) (A : PAd) (F : PCf) (S : PSt) : Prop where
  ptr : w.heap[A.pb]? = some (.cells (polC A F.cv S.arr) 142 (0, 0))
  gn : GnAt w A.gb (F.c 0).toNat F.kv F.G
  sto : Sto w A.st S.L (F.c 1).toNat
  q : QU.QAt w A.qb A.qr (F.c 9) (F.c 10) S.sh S.ql
  tn : TnAt w A.tb A.t1 A.t2 (F.c 8) S.tl S.line
  b0 : BlAt w A.u0 A.v0 S.b0 (F.c 2).toNat (F.c 3).toNat (F.c 13) (F.c 14) (F.c 4) (F.c 5)
  b1 : BlAt w A.u1 A.v1 S.b1 (F.c 2).toNat (F.c 3).toNat (F.c 13) (F.c 14) (F.c 4) (F.c 5)
  wi : WiAt w A.wb A.ws A.wr S.wl (F.c 6).toNat S.wt (F.c 15) (F.c 16) S.wn
  bx : BxAt w A.xb A.xt A.xr S.xl (F.c 7).toNat S.xn (F.c 17) (F.c 18) (F.c 19)
  ok : A.Ok
  fok : F.Ok
  lim : A.lim ≤ w.heap.size
  tk : ∀ b v, S.tk b = some v → TkAt w b (F.c 18) (F.c 19 * 1048576) v.1 v.2 ∧ A.tg b = 9
section
variable {w w' : World} {A : PAd} {F : PCf} {S : PSt} {ks : List Nat}
theorem Pol.tur (h : Pol w A F S) (p : Tur A.tg ks w w') (hk : ∀ k, 1 ≤ k → k ≤ 9 → k ∉ ks) : Pol w' A F S := by
  have o := h.ok
  have n : ∀ {x k : Nat}, A.tg x = k → 1 ≤ k → k ≤ 9 → A.tg x ∉ ks := fun e h1 h2 => by rw [e]; exact hk _ h1 h2
  exact ⟨p.keep h.ptr (n o.pb (by omega) (by omega)), h.gn.tur p (n o.gb (by omega) (by omega)), h.sto.tur p (fun x hx => n (o.st x hx) (by omega) (by omega)), h.q.tur p (n o.q.1 (by omega) (by omega)) (n o.q.2 (by omega) (by omega)), h.tn.tur p (n o.t.1 (by omega) (by omega)) (n o.t.2.1 (by omega) (by omega)) (n o.t.2.2 (by omega) (by omega)), h.b0.tur p (n o.b0.1 (by omega) (by omega)) (n o.b0.2 (by omega) (by omega)), h.b1.tur p (n o.b1.1 (by omega) (by omega)) (n o.b1.2 (by omega) (by omega)), h.wi.tur p (n o.w.1 (by omega) (by omega)) (n o.w.2.1 (by omega) (by omega)) (n o.w.2.2 (by omega) (by omega)), h.bx.tur p (n o.x.1 (by omega) (by omega)) (n o.x.2.1 (by omega) (by omega)) (n o.x.2.2 (by omega) (by omega)), o, h.fok, Nat.le_trans h.lim p.size, fun b v hb => ⟨(h.tk b v hb).1.tur p (n (h.tk b v hb).2 (by omega) (by omega)), (h.tk b v hb).2⟩⟩
theorem Pol.below (h : Pol w A F S) (p : Below w.heap.size w w') : Pol w' A F S := h.tur (ks := []) (Tur.of_below p) (by simp)
theorem Pol.drew (h : Pol w A F S) : Pol w.drew A F S := h.below (Below.refl _ _).drew
/-- All the parts but those of some kinds. -/
structure Rest (w : World) (A : PAd) (F : PCf) (S : PSt) (ks : List Nat) : Prop where
  ptr : 1 ∉ ks → w.heap[A.pb]? = some (.cells (polC A F.cv S.arr) 142 (0, 0))
  gn : 2 ∉ ks → GnAt w A.gb (F.c 0).toNat F.kv F.G
  sto : 3 ∉ ks → Sto w A.st S.L (F.c 1).toNat
  q : 4 ∉ ks → QU.QAt w A.qb A.qr (F.c 9) (F.c 10) S.sh S.ql
  tn : 5 ∉ ks → TnAt w A.tb A.t1 A.t2 (F.c 8) S.tl S.line
  b0 : 6 ∉ ks → BlAt w A.u0 A.v0 S.b0 (F.c 2).toNat (F.c 3).toNat (F.c 13) (F.c 14) (F.c 4) (F.c 5)
  b1 : 7 ∉ ks → BlAt w A.u1 A.v1 S.b1 (F.c 2).toNat (F.c 3).toNat (F.c 13) (F.c 14) (F.c 4) (F.c 5)
  wi : 8 ∉ ks → WiAt w A.wb A.ws A.wr S.wl (F.c 6).toNat S.wt (F.c 15) (F.c 16) S.wn
  bx : 9 ∉ ks → BxAt w A.xb A.xt A.xr S.xl (F.c 7).toNat S.xn (F.c 17) (F.c 18) (F.c 19)
  ok : A.Ok
  fok : F.Ok
  lim : A.lim ≤ w.heap.size
  tk : 9 ∉ ks → ∀ b v, S.tk b = some v → TkAt w b (F.c 18) (F.c 19 * 1048576) v.1 v.2 ∧ A.tg b = 9
theorem Pol.rest (h : Pol w A F S) (p : Tur A.tg ks w w') : Rest w' A F S ks := by
  have o := h.ok
  have n : ∀ {x k : Nat}, A.tg x = k → k ∉ ks → A.tg x ∉ ks := fun e h1 => by rw [e]; exact h1
  exact ⟨fun m => p.keep h.ptr (n o.pb m), fun m => h.gn.tur p (n o.gb m), fun m => h.sto.tur p (fun x hx => n (o.st x hx) m), fun m => h.q.tur p (n o.q.1 m) (n o.q.2 m), fun m => h.tn.tur p (n o.t.1 m) (n o.t.2.1 m) (n o.t.2.2 m), fun m => h.b0.tur p (n o.b0.1 m) (n o.b0.2 m), fun m => h.b1.tur p (n o.b1.1 m) (n o.b1.2 m), fun m => h.wi.tur p (n o.w.1 m) (n o.w.2.1 m) (n o.w.2.2 m), fun m => h.bx.tur p (n o.x.1 m) (n o.x.2.1 m) (n o.x.2.2 m), o, h.fok, Nat.le_trans h.lim p.size, fun m b v hb => ⟨(h.tk b v hb).1.tur p (n (h.tk b v hb).2 m), (h.tk b v hb).2⟩⟩
theorem Rest.setSto (h : Rest w A F S [3]) {L : List (List (Array Value))} (k : Sto w A.st L (F.c 1).toNat) : Pol w A F { S with L := L } := ⟨h.ptr (by decide), h.gn (by decide), k, h.q (by decide), h.tn (by decide), h.b0 (by decide), h.b1 (by decide), h.wi (by decide), h.bx (by decide), h.ok, h.fok, h.lim, h.tk (by decide)⟩
theorem Rest.setQ (h : Rest w A F S [4]) {s : Int} {l : List Int} (k : QU.QAt w A.qb A.qr (F.c 9) (F.c 10) s l) : Pol w A F { S with sh := s, ql := l } := ⟨h.ptr (by decide), h.gn (by decide), h.sto (by decide), k, h.tn (by decide), h.b0 (by decide), h.b1 (by decide), h.wi (by decide), h.bx (by decide), h.ok, h.fok, h.lim, h.tk (by decide)⟩
theorem Rest.setT (h : Rest w A F S [5]) {l : List Tcl} {ln : List Nat} (k : TnAt w A.tb A.t1 A.t2 (F.c 8) l ln) : Pol w A F { S with tl := l, line := ln } := ⟨h.ptr (by decide), h.gn (by decide), h.sto (by decide), h.q (by decide), k, h.b0 (by decide), h.b1 (by decide), h.wi (by decide), h.bx (by decide), h.ok, h.fok, h.lim, h.tk (by decide)⟩
theorem Rest.setB0 (h : Rest w A F S [6]) {l : List Bin} (k : BlAt w A.u0 A.v0 l (F.c 2).toNat (F.c 3).toNat (F.c 13) (F.c 14) (F.c 4) (F.c 5)) : Pol w A F { S with b0 := l } := ⟨h.ptr (by decide), h.gn (by decide), h.sto (by decide), h.q (by decide), h.tn (by decide), k, h.b1 (by decide), h.wi (by decide), h.bx (by decide), h.ok, h.fok, h.lim, h.tk (by decide)⟩
theorem Rest.setW (h : Rest w A F S [8]) {l : List Slt} {t n : Int} (k : WiAt w A.wb A.ws A.wr l (F.c 6).toNat t (F.c 15) (F.c 16) n) : Pol w A F { S with wl := l, wt := t, wn := n } := ⟨h.ptr (by decide), h.gn (by decide), h.sto (by decide), h.q (by decide), h.tn (by decide), h.b0 (by decide), h.b1 (by decide), k, h.bx (by decide), h.ok, h.fok, h.lim, h.tk (by decide)⟩
theorem PAd.Ok.lt (o : A.Ok) {x k : Nat} (h : A.tg x = k) (hk : 1 ≤ k) : x < A.lim := by
  rcases Nat.lt_or_ge x A.lim with h1 | h1
  · exact h1
  · have := o.hi x h1
    omega
theorem Pol.tk_ne (h : Pol w A F S) {b : Nat} {v : Int × Int} (hb : S.tk b = some v) : b ≠ A.xb ∧ b ≠ A.xt ∧ b ≠ A.xr ∧ b < w.heap.size := by
  have t := (h.tk b v hb).1
  exact ⟨ne_ty t h.bx.ptr (by decide), ne_ty t h.bx.tb.ptr (by decide), ne_ty t h.bx.tb.row (by decide), (Array.getElem?_eq_some_iff.1 t).1⟩
theorem Pol.box (h : Pol w A F S) {l : List Plc} {n : Int} (p : Two A.xt A.xr w w') (k : BxAt w' A.xb A.xt A.xr l (F.c 7).toNat n (F.c 17) (F.c 18) (F.c 19)) : Pol w' A F { S with xl := l, xn := n } ∧ Tur A.tg [9] w w' := by
  have q : Tur A.tg [9] w w' := Tur.of_two p (by simp [h.ok.x.2.1]) (by simp [h.ok.x.2.2])
  have r := h.rest q
  refine ⟨⟨r.ptr (by decide), r.gn (by decide), r.sto (by decide), r.q (by decide), r.tn (by decide), r.b0 (by decide), r.b1 (by decide), r.wi (by decide), k, r.ok, r.fok, r.lim, fun b v hb => ?_⟩, q⟩
  obtain ⟨_, n1, n2, n3⟩ := h.tk_ne hb
  exact ⟨(p.block b n3 n1 n2).trans (h.tk b v hb).1, (h.tk b v hb).2⟩
def upT (f : Nat → Option (Int × Int)) (b : Nat) (v : Int × Int) : Nat → Option (Int × Int) := fun x => if x = b then some v else f x
theorem Pol.take (h : Pol w A F S) {l : List Plc} {n : Int} {tb : Nat} {u v : Int × Int} (hu : S.tk tb = some u) (p : Amg [A.xt, A.xr, tb] w w') (k : BxAt w' A.xb A.xt A.xr l (F.c 7).toNat n (F.c 17) (F.c 18) (F.c 19)) (t : TkAt w' tb (F.c 18) (F.c 19 * 1048576) v.1 v.2) : Pol w' A F { S with xl := l, xn := n, tk := upT S.tk tb v } ∧ Tur A.tg [9] w w' := by
  have q : Tur A.tg [9] w w' := Tur.of_amg p (fun x hx => by
    simp only [List.mem_cons, List.not_mem_nil, or_false] at hx
    rcases hx with rfl | rfl | rfl
    · simp [h.ok.x.2.1]
    · simp [h.ok.x.2.2]
    · simp [(h.tk _ _ hu).2])
  have r := h.rest q
  refine ⟨⟨r.ptr (by decide), r.gn (by decide), r.sto (by decide), r.q (by decide), r.tn (by decide), r.b0 (by decide), r.b1 (by decide), r.wi (by decide), k, r.ok, r.fok, r.lim, fun b y hb => ?_⟩, q⟩
  by_cases e : b = tb
  · subst e
    have hb' : some v = some y := (if_pos rfl : (if b = b then some v else S.tk b) = _).symm.trans hb
    rw [← Option.some.inj hb']
    exact ⟨t, (h.tk _ _ hu).2⟩
  · simp only [upT, if_neg e] at hb
    obtain ⟨_, n1, n2, n3⟩ := h.tk_ne hb
    exact ⟨(p.block b n3 (by simp [n1, n2, e])).trans (h.tk b y hb).1, (h.tk b y hb).2⟩
def PAd.more (A : PAd) (tb lim : Nat) : PAd := { A with tg := fun k => if k = tb then 9 else A.tg k, lim := lim }
theorem PAd.more_tg {A : PAd} {tb lim k : Nat} (h : k ≠ tb) : (A.more tb lim).tg k = A.tg k := if_neg h
theorem PAd.Ok.more (o : A.Ok) {tb lim : Nat} (h1 : A.lim ≤ tb) (h2 : tb < lim) : (A.more tb lim).Ok := by
  have n : ∀ {x k : Nat}, A.tg x = k → 1 ≤ k → (A.more tb lim).tg x = k := fun {x k} e hk => by
    have := o.lt e hk
    rw [PAd.more_tg (by omega), e]
  exact ⟨n o.pb (by omega), n o.gb (by omega), fun x hx => n (o.st x hx) (by omega), ⟨n o.q.1 (by omega), n o.q.2 (by omega)⟩, ⟨n o.t.1 (by omega), n o.t.2.1 (by omega), n o.t.2.2 (by omega)⟩, ⟨n o.b0.1 (by omega), n o.b0.2 (by omega)⟩, ⟨n o.b1.1 (by omega), n o.b1.2 (by omega)⟩, ⟨n o.w.1 (by omega), n o.w.2.1 (by omega), n o.w.2.2 (by omega)⟩, ⟨n o.x.1 (by omega), n o.x.2.1 (by omega), n o.x.2.2 (by omega)⟩, fun k hk => by
    have hk' : lim ≤ k := hk
    rw [PAd.more_tg (by omega), o.hi k (by omega)]⟩
theorem Pol.put (h : Pol w A F S) {l : List Plc} {n : Int} {tb : Nat} {v : Int × Int} (p : Two A.xt A.xr w w') (k : BxAt w' A.xb A.xt A.xr l (F.c 7).toNat n (F.c 17) (F.c 18) (F.c 19)) (hge : w.heap.size ≤ tb) (t : TkAt w' tb (F.c 18) (F.c 19 * 1048576) v.1 v.2) : Pol w' (A.more tb w'.heap.size) F { S with xl := l, xn := n, tk := upT S.tk tb v } ∧ Tur A.tg [9] w w' := by
  obtain ⟨g, q⟩ := h.box p k
  have hlt : tb < w'.heap.size := (Array.getElem?_eq_some_iff.1 t).1
  have hl := h.lim
  refine ⟨⟨g.ptr, g.gn, g.sto, g.q, g.tn, g.b0, g.b1, g.wi, g.bx, h.ok.more (by omega) hlt, g.fok, Nat.le_refl _, fun b y hb => ?_⟩, q⟩
  by_cases e : b = tb
  · subst e
    have hb' : some v = some y := (if_pos rfl : (if b = b then some v else S.tk b) = _).symm.trans hb
    rw [← Option.some.inj hb']
    exact ⟨t, if_pos rfl⟩
  · simp only [upT, if_neg e] at hb
    rw [PAd.more_tg e]
    exact g.tk b y hb
theorem polC_lo (h : Pol w A F S) (i : Nat) (hi : i < 20) : (polC A F.cv S.arr)[i]? = some (.int .i64 (F.c i)) := by
  have hs := h.fok.cfg.size
  rw [polC, Array.getElem?_append_left (by omega)]
  exact h.fok.cfg.at_ i hi
theorem polC_hi (h : Pol w A F S) (i : Nat) : (polC A F.cv S.arr)[20 + i]? = (#[Value.pointer (some ⟨A.gb, 0, none⟩), .pointer (some ⟨A.st.sb, 0, none⟩), .pointer (some ⟨A.qb, 0, none⟩), .pointer (some ⟨A.tb, 0, none⟩), .pointer (some ⟨A.u0, 0, none⟩), .pointer (some ⟨A.u1, 0, none⟩), .pointer (some ⟨A.wb, 0, none⟩), .pointer (some ⟨A.xb, 0, none⟩), .int .i64 S.arr])[i]? := by
  have hs := h.fok.cfg.size
  rw [polC, Array.getElem?_append_right (by omega), hs]
  congr 1
  omega
theorem Pol.lo (h : Pol w A F S) (i : Nat) (hi : i < 20) : w.cell? ⟨A.pb, i, none⟩ = some (.int .i64 (F.c i)) := cells_of_row h.ptr i _ (polC_lo h i hi)
theorem Pol.c20 (h : Pol w A F S) : w.cell? ⟨A.pb, 20, none⟩ = some (.pointer (some ⟨A.gb, 0, none⟩)) := cells_of_row h.ptr 20 _ (polC_hi h 0)
theorem Pol.c21 (h : Pol w A F S) : w.cell? ⟨A.pb, 21, none⟩ = some (.pointer (some ⟨A.st.sb, 0, none⟩)) := cells_of_row h.ptr 21 _ (polC_hi h 1)
theorem Pol.c22 (h : Pol w A F S) : w.cell? ⟨A.pb, 22, none⟩ = some (.pointer (some ⟨A.qb, 0, none⟩)) := cells_of_row h.ptr 22 _ (polC_hi h 2)
theorem Pol.c23 (h : Pol w A F S) : w.cell? ⟨A.pb, 23, none⟩ = some (.pointer (some ⟨A.tb, 0, none⟩)) := cells_of_row h.ptr 23 _ (polC_hi h 3)
theorem Pol.c24 (h : Pol w A F S) : w.cell? ⟨A.pb, 24, none⟩ = some (.pointer (some ⟨A.u0, 0, none⟩)) := cells_of_row h.ptr 24 _ (polC_hi h 4)
theorem Pol.c28 (h : Pol w A F S) : w.cell? ⟨A.pb, 28, none⟩ = some (.int .i64 S.arr) := cells_of_row h.ptr 28 _ (polC_hi h 8)
theorem Pol.fr (h : Pol w A F S) (j : Nat) : w.frozen? ⟨A.pb, j, none⟩ = false := frozen_of_row _ _ _ _ _ h.ptr
theorem polC_arr (A : PAd) (cv : Array Value) (arr n : Int) (hs : cv.size = 20) : (polC A cv arr).setIfInBounds 28 (.int .i64 n) = polC A cv n := by
  unfold polC
  rw [Array.setIfInBounds_append_right (by omega), hs]
  rfl
theorem Pol.setArr (h : Pol w A F S) (n : Int) : Pol (w.setCell ⟨A.pb, 28, none⟩ (.int .i64 n)) A F { S with arr := n } ∧ Tur A.tg [1] w (w.setCell ⟨A.pb, 28, none⟩ (.int .i64 n)) := by
  have p : Tur A.tg [1] w (w.setCell ⟨A.pb, 28, none⟩ (.int .i64 n)) := Tur.of_two (Two.setCell (g := A.pb) (h := A.pb) (x := ⟨A.pb, 28, none⟩) (Two.refl _ _ w) (.inl rfl) (.int .i64 n)) (by simp [h.ok.pb]) (by simp [h.ok.pb])
  have r := h.rest p
  refine ⟨⟨?_, r.gn (by decide), r.sto (by decide), r.q (by decide), r.tn (by decide), r.b0 (by decide), r.b1 (by decide), r.wi (by decide), r.bx (by decide), r.ok, r.fok, r.lim, r.tk (by decide)⟩, p⟩
  rw [heap_setCell_same _ _ _ _ _ _ h.ptr, polC_arr _ _ _ _ h.fok.cfg.size]
theorem Pol.pen (h : Pol w A F S) : 0 ≤ F.c 0 ∧ F.c 0 ≤ 64 ∧ F.c 0 = ((F.c 0).toNat : Int) := by
  have := h.fok.right.buckets
  omega
end
end Go.Proofs.YtpanmfdbdgecaaaGreat.C

namespace Go.Proofs.YtpanmfdbdgecaaaGreat.C
open Go.RowKit
set_option linter.unusedVariables false
theorem tcl_len {l : List Tcl} : ∀ c ∈ l.map tclC, c.length = 3 := fun c hc => by obtain ⟨x, _, rfl⟩ := List.mem_map.1 hc; rfl
section
variable {w : World} {pb b1 b2 : Nat} {q : Int} {l : List Tcl} {line : List Nat}
theorem TnAt.c0 (h : TnAt w pb b1 b2 q l line) : w.cell? ⟨pb, 0, none⟩ = some (.int .i64 q) ∧ w.cell? ⟨pb, 1, none⟩ = some (.slice (some ⟨b1, 0, none⟩) l.length l.length) ∧ w.cell? ⟨pb, 2, none⟩ = some (.slice (some ⟨b2, 0, none⟩) line.length l.length) ∧ w.frozen? ⟨pb, 2, none⟩ = false := by
  rw [cell_of_row _ _ _ _ _ _ h.ptr, cell_of_row _ _ _ _ _ _ h.ptr, cell_of_row _ _ _ _ _ _ h.ptr]
  exact ⟨rfl, rfl, rfl, frozen_of_row _ _ _ _ _ h.ptr⟩
theorem TnAt.cls (h : TnAt w pb b1 b2 q l line) {c : Nat} {x : Tcl} (hx : l[c]? = some x) : w.cell? ⟨b1, c * 3, none⟩ = some (.bool x.awake) ∧ w.cell? ⟨b1, c * 3 + 1, none⟩ = some (.bool x.fresh) ∧ w.cell? ⟨b1, c * 3 + 2, none⟩ = some (.int .i64 x.deficit) ∧ (∀ j, w.frozen? ⟨b1, j, none⟩ = false) := by
  have hm : (l.map tclC)[c]? = some (tclC x) := by simp [hx]
  have h0 := flat_at _ tcl_len c 0 (tclC x) hm (by omega)
  have h1 := flat_at _ tcl_len c 1 (tclC x) hm (by omega)
  have h2 := flat_at _ tcl_len c 2 (tclC x) hm (by omega)
  refine ⟨?_, ?_, ?_, fun j => frozen_of_row _ _ _ _ _ h.row⟩
  · rw [cell_of_row _ _ _ _ _ _ h.row, List.getElem?_toArray]; exact h0
  · rw [cell_of_row _ _ _ _ _ _ h.row, List.getElem?_toArray]; exact h1
  · rw [cell_of_row _ _ _ _ _ _ h.row, List.getElem?_toArray]; exact h2
theorem TnAt.ne (h : TnAt w pb b1 b2 q l line) : pb ≠ b1 ∧ pb ≠ b2 ∧ b1 ≠ b2 := by
  obtain ⟨C, h2, _⟩ := h.lin
  exact ⟨ne_ty h.ptr h.row (by decide), ne_ty h.ptr h2 (by decide), ne_ty h.row h2 (by decide)⟩
theorem TnAt.setCls (h : TnAt w pb b1 b2 q l line) {c : Nat} {x : Tcl} (hx : l[c]? = some x) (y : Tcl) : TnAt (w.setCells b1 (c * 3) (tclC y)) pb b1 b2 q (l.set c y) line := by
  obtain ⟨C, h2, h3, h4⟩ := h.lin
  obtain ⟨n1, n2, n3⟩ := h.ne
  have hc := lt_of_some hx
  have hsz : (l.map tclC).flatten.length = l.length * 3 := by rw [flat_length 3 _ tcl_len, List.length_map]
  refine ⟨?_, ?_, ⟨C, ?_, by rw [List.length_set]; exact h3, h4⟩, by rw [List.length_set]; exact h.len⟩
  · rw [heap_setCells_other _ _ _ _ _ n1, List.length_set]
    exact h.ptr
  · have hb := block_setCells 307 (tclC y) (c * 3) w b1 _ h.row (by
      have : (tclC y).length = 3 := rfl
      rw [List.size_toArray, hsz, this]
      omega)
    rw [hb]
    have e : (l.set c y).map tclC = (l.map tclC).set c (tclC y) := by rw [List.map_set]
    rw [e, flat_set _ tcl_len c (tclC y) (by simpa using hc) rfl]
  · rw [heap_setCells_other _ _ _ _ _ (fun e => n3 e.symm)]
    exact h2
theorem TnAt.snoc (h : TnAt w pb b1 b2 q l line) (hlt : line.length < l.length) (c : Nat) : TnAt ((w.setCell ⟨b2, line.length, none⟩ (.int .i64 (c : Nat))).setCell ⟨pb, 2, none⟩ (.slice (some ⟨b2, 0, none⟩) (line.length + 1) l.length)) pb b1 b2 q l (line ++ [c]) := by
  obtain ⟨C, h2, h3, h4⟩ := h.lin
  obtain ⟨n1, n2, n3⟩ := h.ne
  have k2 := heap_setCell_same _ _ line.length _ _ (.int .i64 (c : Nat)) h2
  have kp : (w.setCell ⟨b2, line.length, none⟩ (.int .i64 (c : Nat))).heap[pb]? = _ := (heap_setCell_other _ _ _ _ n2).trans h.ptr
  have kr : (w.setCell ⟨b2, line.length, none⟩ (.int .i64 (c : Nat))).heap[b1]? = _ := (heap_setCell_other _ _ _ _ n3).trans h.row
  refine ⟨?_, (heap_setCell_other _ _ _ _ (fun e => n1 e.symm)).trans kr, ⟨_, (heap_setCell_other _ _ _ _ (fun e => n2 e.symm)).trans k2, by simp [h3], fun j x hj => ?_⟩, by simp; omega⟩
  · have := heap_setCell_same _ _ 2 _ _ (.slice (some ⟨b2, 0, none⟩) (line.length + 1) l.length) kp
    simpa using this
  · by_cases hjl : j < line.length
    · rw [List.getElem?_append_left hjl] at hj
      rw [Array.getElem?_setIfInBounds_ne (by omega)]
      exact h4 j x hj
    · rw [List.getElem?_append_right (by omega)] at hj
      have hj0 : j - line.length = 0 := by
        have := (List.getElem?_eq_some_iff.1 hj).1
        simp at this
        omega
      rw [hj0] at hj
      obtain rfl : c = x := by simpa using hj
      obtain rfl : j = line.length := by omega
      rw [Array.getElem?_setIfInBounds_self_of_lt (by omega)]
theorem turns_has (c : Int) (h : TnAt w pb b1 b2 q l line) (hl : l.length ≤ 129) :
    Calls Tryz.prog 156 #[.pointer (some ⟨pb, 0, none⟩), .int .i64 c] w fun e w' => e = .returned (.bool (decide (0 ≤ c ∧ c < l.length))) ∧ w' = w := by
  obtain ⟨_, c1, _, _⟩ := h.c0
  clear h
  generalize l.length = n at *
  by_cases h0 : c < 0
  · rw [decide_eq_false (show ¬ (0 ≤ c ∧ c < n) by omega)]
    go_enter Tryz.func156, Tryz.ntmps156
    go_wp2
    go_ret
    exact ⟨rfl, rfl⟩
  · have h0' : 0 ≤ c := by omega
    by_cases h1 : c < n
    · rw [decide_eq_true (show (0 ≤ c ∧ c < n) from ⟨h0', h1⟩)]
      have hd : decide (c < (n : Int)) = true := decide_eq_true h1
      go_enter Tryz.func156, Tryz.ntmps156
      go_wp2
      go_ret
      exact ⟨rfl, rfl⟩
    · rw [decide_eq_false (show ¬ (0 ≤ c ∧ c < n) by omega)]
      have hd : decide (c < (n : Int)) = false := decide_eq_false h1
      go_enter Tryz.func156, Tryz.ntmps156
      go_wp2
      go_ret
      exact ⟨rfl, rfl⟩
/-- Who is awake already isn't woken. -/
theorem turns_wake_no (c : Nat) (x : Tcl) (h : TnAt w pb b1 b2 q l line) (hl : l.length ≤ 129) (hx : l[c]? = some x) (ha : x.awake = true) :
    Calls Tryz.prog 102 #[.pointer (some ⟨pb, 0, none⟩), .int .i64 (c : Nat)] w fun e w' => e = .returned (.bool false) ∧ w' = w := by
  have hc := lt_of_some hx
  have CH := Lib.hid (turns_has (c : Nat) h hl)
  rw [decide_eq_true (show 0 ≤ (c : Int) ∧ (c : Int) < l.length by omega)] at CH
  obtain ⟨c0, c1, c2, f2⟩ := h.c0
  obtain ⟨d0, d1, d2, ff⟩ := h.cls hx
  rw [ha] at d0
  clear h hx
  generalize l.length = n at *
  have hcn : (c : Int) < (n : Int) := by omega
  go_enter Tryz.func102, Tryz.ntmps102
  go_wp2_with fail
  refine CH.out.mono ?_
  rintro e w1 ⟨rfl, rfl⟩
  go_wp2
  go_ret
  exact ⟨rfl, rfl⟩
theorem int_info : (Tryz.prog.info? 3).map (fun i => (i.zero, i.size, i.bytes)) = some (some (.int .i64 0), 1, 8) := by kernel_rfl
set_option maxRecDepth 100000 in
set_option maxHeartbeats 1000000 in
theorem turns_wake_yes (c : Nat) (x : Tcl) (h : TnAt w pb b1 b2 q l line) (hl : l.length ≤ 129) (hx : l[c]? = some x) (ha : x.awake = false) (hlt : line.length < l.length) :
    Calls Tryz.prog 102 #[.pointer (some ⟨pb, 0, none⟩), .int .i64 (c : Nat)] w fun e w' => e = .returned (.bool true) ∧ TnAt w' pb b1 b2 q (l.set c ⟨true, true, 0⟩) (line ++ [c]) ∧ Amg [pb, b1, b2] w w' := by
  have hc := lt_of_some hx
  have CH := Lib.hid (turns_has (c : Nat) h hl)
  rw [decide_eq_true (show 0 ≤ (c : Int) ∧ (c : Int) < l.length by omega)] at CH
  obtain ⟨i0, hi, hz0, hz1, hz2⟩ := info_parts int_info
  obtain ⟨c0, c1, c2, f2⟩ := h.c0
  obtain ⟨d0, d1, d2, ff⟩ := h.cls hx
  rw [ha] at d0
  have g0 := ff (c * 3)
  have g1 := ff (c * 3 + 1)
  have g2 := ff (c * 3 + 2)
  obtain ⟨C, hC, hCs, hCl⟩ := h.lin
  obtain ⟨n1, n2, n3⟩ := h.ne
  have HH := Lib.hid h
  have HX := Lib.hid hx
  clear h hx ff
  have HN : Hid (l.length = l.length) := Lib.hid rfl
  have hcn : (c : Int) < (l.length : Int) := by omega
  go_enter Tryz.func102, Tryz.ntmps102
  go_wp2_with fail
  refine CH.out.mono ?_
  rintro e w1 ⟨rfl, rfl⟩
  go_upto_region 4 with (fail)
  have h3 := HH.out.setCls HX.out ⟨true, true, 0⟩
  have a3 : Amg [pb, b1, b2] w1 (w1.setCells b1 (c * 3) (tclC ⟨true, true, 0⟩)) := Amg.of_two (Two.setCells (g := b1) (h := b1) (.inl rfl) _ _ (Two.refl b1 b1 w1)) (by simp) (by simp)
  have e3 : ((w1.setCell ⟨b1, c * 3, none⟩ (.bool true)).setCell ⟨b1, c * 3 + 1, none⟩ (.bool true)).setCell ⟨b1, c * 3 + 2, none⟩ (.int .i64 0) = w1.setCells b1 (c * 3) (tclC ⟨true, true, 0⟩) := rfl
  rw [e3]
  have HA := Lib.hid a3
  clear a3 e3 c0 c1 c2 f2 d0 d1 d2 g0 g1 g2 hC hCl CH
  generalize w1.setCells b1 (c * 3) (tclC ⟨true, true, 0⟩) = w3 at *
  have hl2 : (l.set c ⟨true, true, 0⟩).length = l.length := List.length_set
  generalize hq2 : l.set c ⟨true, true, 0⟩ = l2 at h3 hl2
  have HL2 := Lib.hid hq2
  clear hq2
  rw [← hl2] at hlt hcn hl hc hCs
  clear hl2 HH HX
  obtain ⟨_, _, c2, f2⟩ := h3.c0
  obtain ⟨C', hC, hCs', hCl⟩ := h3.lin
  obtain ⟨v0, hv0⟩ : ∃ v, C'[line.length]? = some v := ⟨_, Array.getElem?_eq_getElem (by rw [hCs']; exact hlt)⟩
  have hv : w3.cell? ⟨b2, line.length, none⟩ = some v0 := by rw [cell_of_row _ _ _ _ _ _ hC]; exact hv0
  have hfz : w3.frozen? ⟨b2, line.length, none⟩ = false := frozen_of_row _ _ _ _ _ hC
  have hb3 : Below w3.heap.size w3 (w3.alloc (.cells #[.int .i64 (c : Nat)] 3)) := (Below.refl _ _).alloc (Nat.le_refl _) _
  have hv2 : (w3.alloc (.cells #[.int .i64 (c : Nat)] 3)).cell? ⟨b2, line.length, none⟩ = some v0 := by rw [cell_of_row _ _ _ _ _ _ (keep_block hb3 hC)]; exact hv0
  have hfz2 : (w3.alloc (.cells #[.int .i64 (c : Nat)] 3)).frozen? ⟨b2, line.length, none⟩ = false := frozen_of_row _ _ _ _ _ (keep_block hb3 hC)
  have f3 : ((w3.alloc (.cells #[.int .i64 (c : Nat)] 3)).setCell ⟨b2, line.length, none⟩ (.int .i64 (c : Nat))).frozen? ⟨pb, 2, none⟩ = false := frozen_of_row _ _ _ _ _ ((heap_setCell_other _ _ _ _ n2).trans (keep_block hb3 h3.ptr))
  have c3 : (w3.alloc (.cells #[.int .i64 (c : Nat)] 3)).cell? ⟨pb, 2, none⟩ = some (.slice (some ⟨b2, 0, none⟩) line.length l2.length) := (h3.below hb3).c0.2.2.1
  have H3 := Lib.hid (h3.below hb3)
  have HB3 := Lib.hid hb3
  clear h3 hv0 hb3
  have HSN := Lib.hid ((And.intro (H3.out.snoc hlt c) (Amg.of_below HB3.out |>.trans (Amg.of_two (Two.setCell (g := b2) (h := pb) (x := ⟨pb, 2, none⟩) (Two.setCell (g := b2) (h := pb) (x := ⟨b2, line.length, none⟩) (Two.refl b2 pb _) (.inl rfl) (.int .i64 (c : Nat))) (.inr rfl) (.slice (some ⟨b2, 0, none⟩) (line.length + 1) l2.length)) (by simp) (by simp)) : Amg [pb, b1, b2] w3 _)))
  clear hC hCl
  go_wp2
  go_ret
  rw [HL2.out]
  refine ⟨rfl, HSN.out.1, HA.out.trans HSN.out.2⟩
end
end Go.Proofs.YtpanmfdbdgecaaaGreat.C

namespace Go.Proofs.YtpanmfdbdgecaaaGreat.C
open Go.RowKit
set_option linter.unusedVariables false
section
variable {w : World} {A : PAd} {F : PCf} {S : PSt}
theorem police_penalty (h : Pol w A F S) : Calls Tryz.prog 40 #[.pointer (some ⟨A.pb, 0, none⟩)] w fun e w' => e = .returned (.int .i64 (2 * F.c 0)) ∧ w' = w := by
  have c0 := h.lo 0 (by decide)
  obtain ⟨p0, p1, p2⟩ := h.pen
  have hw : IntKind.i64.wrap (2 * F.c 0) = 2 * F.c 0 := IntWalk.i64_in _ (by omega)
  clear p2 h
  generalize F.c 0 = n at *
  go_enter Tryz.func40, Tryz.ntmps40
  go_wp2
  go_ret
  exact ⟨rfl, rfl⟩
end
def wakeT (tl : List Tcl) (line : List Nat) (c : Nat) : List Tcl × List Nat :=
  match tl[c]? with
  | some x => if x.awake then (tl, line) else (tl.set c ⟨true, true, 0⟩, line ++ [c])
  | none => (tl, line)
theorem turns_wake {pb b1 b2 : Nat} {q : Int} {l : List Tcl} {line : List Nat} {w : World} (c : Nat) (x : Tcl) (h : TnAt w pb b1 b2 q l line) (hl : l.length ≤ 129) (hx : l[c]? = some x) (hlt : x.awake = false → line.length < l.length) :
    Calls Tryz.prog 102 #[.pointer (some ⟨pb, 0, none⟩), .int .i64 (c : Nat)] w fun e w' => (∃ b, e = .returned (.bool b)) ∧ TnAt w' pb b1 b2 q (wakeT l line c).1 (wakeT l line c).2 ∧ Amg [pb, b1, b2] w w' := by
  unfold wakeT
  rw [hx]
  simp only []
  cases ha : x.awake
  · refine (turns_wake_yes c x h hl hx ha (hlt ha)).mono ?_
    rintro e w' ⟨rfl, h1, h2⟩
    exact ⟨⟨_, rfl⟩, h1, h2⟩
  · refine (turns_wake_no c x h hl hx ha).mono ?_
    rintro e w' ⟨rfl, rfl⟩
    exact ⟨⟨_, rfl⟩, h, Amg.refl _ _⟩
section
variable {w : World} {A : PAd} {F : PCf} {S : PSt}
theorem Pol.fits (h : Pol w A F S) {c n : Int} (hok : QU.QOk (F.c 9) (F.c 10) S.sh S.ql) (hc : c ≤ 4611686018427387904) :
    Calls Tryz.prog 131 #[.pointer (some ⟨A.qb, 0, none⟩), .int .i64 c, .int .i64 n] w fun e w'' => e = .returned (.bool (QU.fitsB (F.c 9) (F.c 10) S.sh S.ql c n)) ∧ Below w.heap.size w w'' := by
  refine (QU.fits_any A.qb A.qr (F.c 9) (F.c 10) S.sh c n S.ql w h.q hok hc).mono ?_
  rintro e w' ⟨rfl, k, rfl⟩
  exact ⟨rfl, below_drewN (Below.refl _ _) k⟩
set_option maxRecDepth 100000 in
set_option maxHeartbeats 1000000 in
theorem join_yes (cl : Nat) (n : Int) (x : Array Value) (l : List (Array Value)) (y : Tcl) (b0 b1 : List Bin) (hx : PkL x n) (h : Pol w A F S) (hok : QU.QOk (F.c 9) (F.c 10) S.sh S.ql) (hl : S.L[cl]? = some l) (hcl2 : S.tl.length ≤ 129) (hn : 1 ≤ n ∧ n ≤ 9216) (hyes : QU.fitsB (F.c 9) (F.c 10) S.sh S.ql cl n = true) (hroom : total S.L < (F.c 1).toNat)
    (hy : S.tl[cl]? = some y) (hlt : y.awake = false → S.line.length < S.tl.length)
    (hcn : ∀ w' S', Pol w' A F S' → S'.b0 = S.b0 → S'.b1 = S.b1 → Calls Tryz.prog 133 #[.pointer (some ⟨A.pb, 0, none⟩), .int .i64 (cl : Nat), .agg x, .bool true] w' fun e w'' => e = .returned (.tuple #[]) ∧ Pol w'' A F { S' with b0 := b0, b1 := b1 } ∧ Tur A.tg [6, 7] w' w'') :
    Calls Tryz.prog 74 #[.pointer (some ⟨A.pb, 0, none⟩), .int .i64 (cl : Nat), .agg x] w fun e w' => e = .returned (.int .i64 0) ∧ Pol w' A F { S with L := S.L.set cl (l ++ [x]), sh := QU.addS (F.c 9) (F.c 10) S.sh S.ql cl n, ql := QU.addL (F.c 9) (F.c 10) S.sh S.ql cl n, b0 := b0, b1 := b1, tl := (wakeT S.tl S.line cl).1, line := (wakeT S.tl S.line cl).2 } ∧ Tur A.tg [3, 4, 5, 6, 7] w w' := by
  have HO := Lib.hid h.ok
  have HL := Lib.hid hx.len
  have HPK := Lib.hid hx.pk
  have HLI := Lib.hid h.lim
  have H1 : Hid (∀ w' S' b, Pol w' A F S' → w'.heap[b]? = some (.cells x 68 (0, 0)) → w'.cell? ⟨A.pb, 22, none⟩ = some (.pointer (some ⟨A.qb, 0, none⟩)) ∧ w'.cell? ⟨A.pb, 21, none⟩ = some (.pointer (some ⟨A.st.sb, 0, none⟩)) ∧ w'.cell? ⟨A.pb, 23, none⟩ = some (.pointer (some ⟨A.tb, 0, none⟩)) ∧ w'.cell? ⟨b, 45, none⟩ = some (.int .i64 n) ∧ (Instr.loadAt 68 (.pointer (some ⟨b, 0, none⟩))).run Tryz.prog w' = .ok (.agg x) w') := Lib.hid fun w' S' b q hb => ⟨q.c22, q.c21, q.c23, cells_of_row hb 45 _ HL.out, pkt_load hb HPK.out⟩
  have CQ : Hid (∀ w', Below w.heap.size w w' → Calls Tryz.prog 131 #[.pointer (some ⟨A.qb, 0, none⟩), .int .i64 (cl : Nat), .int .i64 n] w' fun e w'' => e = .returned (.bool true) ∧ Below w'.heap.size w' w'') := Lib.hid fun w' q => by
    rw [← hyes]
    have hlq := (List.getElem?_eq_some_iff.1 hy).1
    exact (h.below q).fits hok (by omega)
  have CS : Hid (∀ w', Pol w' A F S → Calls Tryz.prog 99 #[.pointer (some ⟨A.st.sb, 0, none⟩), .int .i64 (cl : Nat), .agg x] w' fun e w'' => e = .returned (.bool true) ∧ Pol w'' A F { S with L := S.L.set cl (l ++ [x]) } ∧ Tur A.tg [3] w' w'') := Lib.hid fun w' q => by
    refine (push_yes cl n x l q.sto hx hl hn hroom).mono ?_
    rintro e w'' ⟨rfl, hS, hA⟩
    have hT : Tur A.tg [3] w' w'' := Tur.of_amg hA (fun k hk => by
      have : k ∈ A.st.sb :: A.st.pb :: A.st.bs := List.mem_cons_of_mem _ (List.mem_cons_of_mem _ hk)
      rw [q.ok.st k this]
      simp)
    exact ⟨rfl, (q.rest hT).setSto hS, hT⟩
  have CA : Hid (∀ w', Pol w' A F { S with L := S.L.set cl (l ++ [x]) } → Calls Tryz.prog 132 #[.pointer (some ⟨A.qb, 0, none⟩), .int .i64 (cl : Nat), .int .i64 n] w' fun e w'' => e = .returned (.bool true) ∧ Pol w'' A F { S with L := S.L.set cl (l ++ [x]), sh := QU.addS (F.c 9) (F.c 10) S.sh S.ql cl n, ql := QU.addL (F.c 9) (F.c 10) S.sh S.ql cl n } ∧ Tur A.tg [4] w' w'') := Lib.hid fun w' q => by
    have hlq := (List.getElem?_eq_some_iff.1 hy).1
    refine (QU.add_any A.qb A.qr (F.c 9) (F.c 10) S.sh (cl : Nat) n S.ql w' q.q hok (by omega)).mono ?_
    rintro e w'' ⟨rfl, hS, hA⟩
    have hT : Tur A.tg [4] w' w'' := Tur.of_two hA (by simp [q.ok.q.1]) (by simp [q.ok.q.2])
    rw [hyes]
    exact ⟨rfl, (q.rest hT).setQ hS, hT⟩
  have CN := Lib.hid (fun w' (q : Pol w' A F { S with L := S.L.set cl (l ++ [x]), sh := QU.addS (F.c 9) (F.c 10) S.sh S.ql cl n, ql := QU.addL (F.c 9) (F.c 10) S.sh S.ql cl n }) => hcn w' _ q rfl rfl)
  have CW : Hid (∀ w', Pol w' A F { S with L := S.L.set cl (l ++ [x]), sh := QU.addS (F.c 9) (F.c 10) S.sh S.ql cl n, ql := QU.addL (F.c 9) (F.c 10) S.sh S.ql cl n, b0 := b0, b1 := b1 } → Calls Tryz.prog 102 #[.pointer (some ⟨A.tb, 0, none⟩), .int .i64 (cl : Nat)] w' fun e w'' => (∃ b, e = .returned (.bool b)) ∧ Pol w'' A F { S with L := S.L.set cl (l ++ [x]), sh := QU.addS (F.c 9) (F.c 10) S.sh S.ql cl n, ql := QU.addL (F.c 9) (F.c 10) S.sh S.ql cl n, b0 := b0, b1 := b1, tl := (wakeT S.tl S.line cl).1, line := (wakeT S.tl S.line cl).2 } ∧ Tur A.tg [5] w' w'') := Lib.hid fun w' q => by
    refine (turns_wake cl y q.tn hcl2 hy hlt).mono ?_
    rintro e w'' ⟨he, hS, hA⟩
    have hT : Tur A.tg [5] w' w'' := Tur.of_amg hA (fun k hk => by
      obtain ⟨t1, t2, t3⟩ := q.ok.t
      simp only [List.mem_cons, List.not_mem_nil, or_false] at hk
      rcases hk with rfl | rfl | rfl <;> simp [t1, t2, t3])
    exact ⟨he, (q.rest hT).setT hS, hT⟩
  have HP0 := Lib.hid h
  clear h hok hyes hx hcn hroom hl hy hlt hcl2
  generalize { S with L := S.L.set cl (l ++ [x]), sh := QU.addS (F.c 9) (F.c 10) S.sh S.ql cl n, ql := QU.addL (F.c 9) (F.c 10) S.sh S.ql cl n, b0 := b0, b1 := b1, tl := (wakeT S.tl S.line cl).1, line := (wakeT S.tl S.line cl).2 } = S5 at *
  generalize { S with L := S.L.set cl (l ++ [x]), sh := QU.addS (F.c 9) (F.c 10) S.sh S.ql cl n, ql := QU.addL (F.c 9) (F.c 10) S.sh S.ql cl n, b0 := b0, b1 := b1 } = S4 at *
  generalize { S with L := S.L.set cl (l ++ [x]), sh := QU.addS (F.c 9) (F.c 10) S.sh S.ql cl n, ql := QU.addL (F.c 9) (F.c 10) S.sh S.ql cl n } = S3 at *
  generalize { S with L := S.L.set cl (l ++ [x]) } = S2 at *
  go_enter Tryz.func74, Tryz.ntmps74
  go_upto_region 1 with ((with_reducible refine arm_box 5 2 68 x ?_ ?_); rfl; intro w1 HB HX HS)
  have HP1 := Lib.hid (HP0.out.below HB.out)
  go_wp2_with fail
  refine wp_region_held_drew (S := Below w1.heap.size w1) (by kernel_rfl) (Below.refl _ _).drew (fun hHeld => ?_)
  refine wpAnyH_take (i := 0) (oi := ⟨some 8, _, _, _, _, _⟩) (v := ?_) rfl (by kernel_rfl) (by kernel_rfl) (by kernel_rfl) (fun _ _ _ h => h) (Or.inl ⟨by rfl, ?_⟩) hHeld ?_
  rotate_left
  · intro w hSw
    go_simp
    try with_reducible rfl
  try simp only [Act.put, List.setIfInBounds_toArray, List.set_cons_zero, List.set_cons_succ]
  refine wpAnyH_take (i := 1) (oi := ⟨some 9, _, _, _, _, _⟩) (v := ?_) rfl (by kernel_rfl) (by kernel_rfl) (by kernel_rfl) (fun _ _ _ h => h) (Or.inl ⟨by rfl, ?_⟩) hHeld ?_
  rotate_left
  · intro w hSw
    go_simp
    try with_reducible rfl
  try simp only [Act.put, List.setIfInBounds_toArray, List.set_cons_zero, List.set_cons_succ]
  refine wpAnyH_take (i := 2) (oi := ⟨some 10, _, _, _, _, _⟩) (v := ?_) rfl (by kernel_rfl) (by kernel_rfl) (by kernel_rfl) (fun _ _ _ h => h) (Or.inl ⟨by rfl, ?_⟩) hHeld ?_
  rotate_left
  · intro w hSw
    go_simp
    try with_reducible rfl
  try simp only [Act.put, List.setIfInBounds_toArray, List.set_cons_zero, List.set_cons_succ]
  refine wpAnyH_take (i := 3) (oi := ⟨some 11, _, _, _, _, _⟩) (v := ?_) rfl (by kernel_rfl) (by kernel_rfl) (by kernel_rfl) (fun _ _ _ h => h) (Or.inl ⟨by rfl, ?_⟩) hHeld ?_
  rotate_left
  · intro w hSw
    obtain ⟨k0, _, _, k1, _⟩ := H1.out w _ _ (HP1.out.below hSw) (keep_block hSw HX.out)
    go_simp
    try with_reducible rfl
  try simp only [Act.put, List.setIfInBounds_toArray, List.set_cons_zero, List.set_cons_succ]
  refine wpAnyH_take (i := 4) (oi := ⟨some 12, _, _, _, _, _⟩) (v := ?_) rfl (by kernel_rfl) (by kernel_rfl) (by kernel_rfl) (fun _ _ _ h => h) (Or.inl ⟨by rfl, ?_⟩) hHeld ?_
  rotate_left
  · intro w hSw
    go_simp
    try with_reducible rfl
  try simp only [Act.put, List.setIfInBounds_toArray, List.set_cons_zero, List.set_cons_succ]
  refine wpAnyH_take (i := 5) (oi := ⟨some 13, _, _, _, _, _⟩) (v := ?_) rfl (by kernel_rfl) (by kernel_rfl) (by kernel_rfl) (fun _ _ _ h => h) (Or.inl ⟨by rfl, ?_⟩) hHeld ?_
  rotate_left
  · intro w hSw
    go_simp
    try with_reducible rfl
  try simp only [Act.put, List.setIfInBounds_toArray, List.set_cons_zero, List.set_cons_succ]
  refine wpAnyH_take (i := 6) (oi := ⟨some 14, _, _, _, _, _⟩) (v := ?_) rfl (by kernel_rfl) (by kernel_rfl) (by kernel_rfl) (fun _ _ _ h => h) (Or.inl ⟨by rfl, ?_⟩) hHeld ?_
  rotate_left
  · intro w hSw
    obtain ⟨k0, _, _, k1, _⟩ := H1.out w _ _ (HP1.out.below hSw) (keep_block hSw HX.out)
    go_simp
    try with_reducible rfl
  try simp only [Act.put, List.setIfInBounds_toArray, List.set_cons_zero, List.set_cons_succ]
  refine wpAnyH_ready (rs := [7]) (by kernel_rfl) (by simp) ?_
  refine AllReadyH.cons rfl (fun K hK => ?_) AllReadyH.nil
  go_simp
  go_wp2_with (go_at_call 131; go_must (refine (CQ.out _ (HB.out.trans (hHeld.mono HB.out.size))).mono ?_; rintro e w7 ⟨rfl, hB7⟩))
  refine hK.out _ _ (hHeld.trans (hB7.mono hHeld.size)) (fun hHeld => ?_)
  clear hK K
  refine wpAnyH_take (i := 8) (oi := ⟨some 16, _, _, _, _, _⟩) (v := ?_) rfl (by kernel_rfl) (by kernel_rfl) (by kernel_rfl) (fun _ _ _ h => h) (Or.inl ⟨by rfl, ?_⟩) hHeld ?_
  rotate_left
  · intro w hSw
    go_simp
    try with_reducible rfl
  try simp only [Act.put, List.setIfInBounds_toArray, List.set_cons_zero, List.set_cons_succ]
  refine wpAnyH_take (i := 9) (oi := ⟨some 7, _, _, _, _, _⟩) (v := ?_) rfl (by kernel_rfl) (by kernel_rfl) (by kernel_rfl) (fun _ _ _ h => h) (Or.inl ⟨by rfl, ?_⟩) hHeld ?_
  rotate_left
  · intro w hSw
    go_simp
    try with_reducible rfl
  try simp only [Act.put, List.setIfInBounds_toArray, List.set_cons_zero, List.set_cons_succ]
  refine wpAnyH_done (by kernel_rfl) ?_ _
  have HB2 := Lib.hid hHeld
  clear hHeld hB7 HS
  have HX2 := Lib.hid (keep_block HB2.out HX.out)
  have HP2 := Lib.hid (HP1.out.below HB2.out)
  have T2 : Hid (Tur A.tg [3, 4, 5, 6, 7] w w7) := Lib.hid (Tur.of_below (HB.out.trans (HB2.out.mono HB.out.size)))
  have hlim : A.lim ≤ w.heap.size := HLI.out
  have HNI : Hid (∀ {a b : World} {ks : List Nat}, Tur A.tg ks a b → 0 ∉ ks → ∀ {o}, a.heap[w.heap.size]? = some o → b.heap[w.heap.size]? = some o) := Lib.hid fun q h0 o ho => q.keep ho (by rw [HO.out.hi _ hlim]; exact h0)
  clear HB HX HB2 HP1 HP0 hlim
  have HL7 : Hid (∀ w' ks, Tur A.tg ks w7 w' → 1 ∉ ks → 0 ∉ ks → w'.cell? ⟨A.pb, 21, none⟩ = some (.pointer (some ⟨A.st.sb, 0, none⟩)) ∧ (Instr.loadAt 68 (.pointer (some ⟨w.heap.size, 0, none⟩))).run Tryz.prog w' = .ok (.agg x) w') := Lib.hid fun w' ks q h1 h0 =>
    ⟨cells_of_row ((HP2.out.rest q).ptr h1) 21 _ (polC_hi HP2.out 1), pkt_load (HNI.out q h0 HX2.out) HPK.out⟩
  go_wp2_with fail
  refine wp_region_held_drew (S := Tur A.tg [3] w7) (by kernel_rfl) (Tur.refl _ _ _).drew (fun hHeld => ?_)
  refine wpAnyH_take (i := 0) (oi := ⟨some 18, _, _, _, _, _⟩) (v := ?_) rfl (by kernel_rfl) (by kernel_rfl) (by kernel_rfl) (fun _ _ _ h => h) (Or.inl ⟨by rfl, ?_⟩) hHeld ?_
  rotate_left
  · intro w hSw
    go_simp
    try with_reducible rfl
  try simp only [Act.put, List.setIfInBounds_toArray, List.set_cons_zero, List.set_cons_succ]
  refine wpAnyH_take (i := 1) (oi := ⟨some 19, _, _, _, _, _⟩) (v := ?_) rfl (by kernel_rfl) (by kernel_rfl) (by kernel_rfl) (fun _ _ _ h => h) (Or.inl ⟨by rfl, ?_⟩) hHeld ?_
  rotate_left
  · intro w hSw
    go_simp
    try with_reducible rfl
  try simp only [Act.put, List.setIfInBounds_toArray, List.set_cons_zero, List.set_cons_succ]
  refine wpAnyH_take (i := 2) (oi := ⟨some 20, _, _, _, _, _⟩) (v := ?_) rfl (by kernel_rfl) (by kernel_rfl) (by kernel_rfl) (fun _ _ _ h => h) (Or.inl ⟨by rfl, ?_⟩) hHeld ?_
  rotate_left
  · intro w hSw
    go_simp
    try with_reducible rfl
  try simp only [Act.put, List.setIfInBounds_toArray, List.set_cons_zero, List.set_cons_succ]
  refine wpAnyH_take (i := 3) (oi := ⟨some 21, _, _, _, _, _⟩) (v := ?_) rfl (by kernel_rfl) (by kernel_rfl) (by kernel_rfl) (fun _ _ _ h => h) (Or.inl ⟨by rfl, ?_⟩) hHeld ?_
  rotate_left
  · intro w hSw
    obtain ⟨k0, k1⟩ := HL7.out w _ hSw (by decide) (by decide)
    go_simp
    try with_reducible rfl
  try simp only [Act.put, List.setIfInBounds_toArray, List.set_cons_zero, List.set_cons_succ]
  refine wpAnyH_take (i := 4) (oi := ⟨some 22, _, _, _, _, _⟩) (v := ?_) rfl (by kernel_rfl) (by kernel_rfl) (by kernel_rfl) (fun _ _ _ h => h) (Or.inl ⟨by rfl, ?_⟩) hHeld ?_
  rotate_left
  · intro w hSw
    go_simp
    try with_reducible rfl
  try simp only [Act.put, List.setIfInBounds_toArray, List.set_cons_zero, List.set_cons_succ]
  refine wpAnyH_take (i := 5) (oi := ⟨some 23, _, _, _, _, _⟩) (v := .agg x) rfl (by kernel_rfl) (by kernel_rfl) (by kernel_rfl) (fun _ _ _ h => h) (Or.inl ⟨by rfl, fun w hSw => exec_load rfl (HL7.out w _ hSw (by decide) (by decide)).2⟩) hHeld ?_
  try simp only [Act.put, List.setIfInBounds_toArray, List.set_cons_zero, List.set_cons_succ]
  refine wpAnyH_ready (rs := [6]) (by kernel_rfl) (by simp) ?_
  refine AllReadyH.cons rfl (fun K hK => ?_) AllReadyH.nil
  go_simp
  go_wp2_with (go_at_call 99; go_must (refine (CS.out _ HP2.out.drew).mono ?_; rintro e w6 ⟨rfl, hP6, hT6⟩))
  refine hK.out _ _ (hHeld.trans hT6) (fun hHeld => ?_)
  clear hK K
  refine wpAnyH_take (i := 7) (oi := ⟨some 25, _, _, _, _, _⟩) (v := ?_) rfl (by kernel_rfl) (by kernel_rfl) (by kernel_rfl) (fun _ _ _ h => h) (Or.inl ⟨by rfl, ?_⟩) hHeld ?_
  rotate_left
  · intro w hSw
    go_simp
    try with_reducible rfl
  try simp only [Act.put, List.setIfInBounds_toArray, List.set_cons_zero, List.set_cons_succ]
  refine wpAnyH_take (i := 8) (oi := ⟨some 17, _, _, _, _, _⟩) (v := ?_) rfl (by kernel_rfl) (by kernel_rfl) (by kernel_rfl) (fun _ _ _ h => h) (Or.inl ⟨by rfl, ?_⟩) hHeld ?_
  rotate_left
  · intro w hSw
    go_simp
    try with_reducible rfl
  try simp only [Act.put, List.setIfInBounds_toArray, List.set_cons_zero, List.set_cons_succ]
  refine wpAnyH_done (by kernel_rfl) ?_ _
  have HP3 := Lib.hid hP6
  have HX3 := Lib.hid (HNI.out hHeld (by decide) HX2.out)
  have T3 : Hid (Tur A.tg [3, 4, 5, 6, 7] w w6) := Lib.hid (T2.out.trans (hHeld.sub (by simp)))
  clear hHeld hP6 hT6 HL7 HX2 HP2 T2 CS CQ
  have HL8 : Hid (∀ w' ks, Tur A.tg ks w6 w' → 1 ∉ ks → 0 ∉ ks → w'.cell? ⟨A.pb, 22, none⟩ = some (.pointer (some ⟨A.qb, 0, none⟩)) ∧ w'.cell? ⟨w.heap.size, 45, none⟩ = some (.int .i64 n)) := Lib.hid fun w' ks q h1 h0 =>
    ⟨cells_of_row ((HP3.out.rest q).ptr h1) 22 _ (polC_hi HP3.out 2), cells_of_row (HNI.out q h0 HX3.out) 45 _ HL.out⟩
  go_wp2_with fail
  refine wp_region_held_drew (S := Tur A.tg [4] w6) (by kernel_rfl) (Tur.refl _ _ _).drew (fun hHeld => ?_)
  refine wpAnyH_take (i := 0) (oi := ⟨some 26, _, _, _, _, _⟩) (v := ?_) rfl (by kernel_rfl) (by kernel_rfl) (by kernel_rfl) (fun _ _ _ h => h) (Or.inl ⟨by rfl, ?_⟩) hHeld ?_
  rotate_left
  · intro w hSw
    go_simp
    try with_reducible rfl
  try simp only [Act.put, List.setIfInBounds_toArray, List.set_cons_zero, List.set_cons_succ]
  refine wpAnyH_take (i := 1) (oi := ⟨some 27, _, _, _, _, _⟩) (v := ?_) rfl (by kernel_rfl) (by kernel_rfl) (by kernel_rfl) (fun _ _ _ h => h) (Or.inl ⟨by rfl, ?_⟩) hHeld ?_
  rotate_left
  · intro w hSw
    go_simp
    try with_reducible rfl
  try simp only [Act.put, List.setIfInBounds_toArray, List.set_cons_zero, List.set_cons_succ]
  refine wpAnyH_take (i := 2) (oi := ⟨some 28, _, _, _, _, _⟩) (v := ?_) rfl (by kernel_rfl) (by kernel_rfl) (by kernel_rfl) (fun _ _ _ h => h) (Or.inl ⟨by rfl, ?_⟩) hHeld ?_
  rotate_left
  · intro w hSw
    go_simp
    try with_reducible rfl
  try simp only [Act.put, List.setIfInBounds_toArray, List.set_cons_zero, List.set_cons_succ]
  refine wpAnyH_take (i := 3) (oi := ⟨some 29, _, _, _, _, _⟩) (v := ?_) rfl (by kernel_rfl) (by kernel_rfl) (by kernel_rfl) (fun _ _ _ h => h) (Or.inl ⟨by rfl, ?_⟩) hHeld ?_
  rotate_left
  · intro w hSw
    obtain ⟨k0, k1⟩ := HL8.out w _ hSw (by decide) (by decide)
    go_simp
    try with_reducible rfl
  try simp only [Act.put, List.setIfInBounds_toArray, List.set_cons_zero, List.set_cons_succ]
  refine wpAnyH_take (i := 4) (oi := ⟨some 30, _, _, _, _, _⟩) (v := ?_) rfl (by kernel_rfl) (by kernel_rfl) (by kernel_rfl) (fun _ _ _ h => h) (Or.inl ⟨by rfl, ?_⟩) hHeld ?_
  rotate_left
  · intro w hSw
    go_simp
    try with_reducible rfl
  try simp only [Act.put, List.setIfInBounds_toArray, List.set_cons_zero, List.set_cons_succ]
  refine wpAnyH_take (i := 5) (oi := ⟨some 31, _, _, _, _, _⟩) (v := ?_) rfl (by kernel_rfl) (by kernel_rfl) (by kernel_rfl) (fun _ _ _ h => h) (Or.inl ⟨by rfl, ?_⟩) hHeld ?_
  rotate_left
  · intro w hSw
    go_simp
    try with_reducible rfl
  try simp only [Act.put, List.setIfInBounds_toArray, List.set_cons_zero, List.set_cons_succ]
  refine wpAnyH_take (i := 6) (oi := ⟨some 32, _, _, _, _, _⟩) (v := ?_) rfl (by kernel_rfl) (by kernel_rfl) (by kernel_rfl) (fun _ _ _ h => h) (Or.inl ⟨by rfl, ?_⟩) hHeld ?_
  rotate_left
  · intro w hSw
    obtain ⟨k0, k1⟩ := HL8.out w _ hSw (by decide) (by decide)
    go_simp
    try with_reducible rfl
  try simp only [Act.put, List.setIfInBounds_toArray, List.set_cons_zero, List.set_cons_succ]
  refine wpAnyH_ready (rs := [7]) (by kernel_rfl) (by simp) ?_
  refine AllReadyH.cons rfl (fun K hK => ?_) AllReadyH.nil
  go_simp
  go_wp2_with (go_at_call 132; go_must (refine (CA.out _ HP3.out.drew).mono ?_; rintro e w7 ⟨rfl, hP7, hT7⟩))
  refine hK.out _ _ (hHeld.trans hT7) (fun hHeld => ?_)
  clear hK K
  refine wpAnyH_done (by kernel_rfl) ?_ _
  have HP4 := Lib.hid hP7
  have HX4 := Lib.hid (HNI.out hHeld (by decide) HX3.out)
  have T4 : Hid (Tur A.tg [3, 4, 5, 6, 7] w w7) := Lib.hid (T3.out.trans (hHeld.sub (by simp)))
  clear hHeld hP7 hT7 HL8 HX3 HP3 T3 CA
  have hld := pkt_load HX4.out HPK.out
  go_wp2_with ((with_reducible refine arm_loadg 36 5 68 (.pointer (some ⟨w.heap.size, 0, none⟩)) (.agg x) hld ?_ ?_ ?_); rfl; rfl)
  refine (CN.out _ HP4.out).mono ?_
  rintro e w8 ⟨rfl, hP8, hT8⟩
  have HP5 := Lib.hid hP8
  have T5 : Hid (Tur A.tg [3, 4, 5, 6, 7] w w8) := Lib.hid (T4.out.trans (hT8.sub (by simp)))
  have k3 := hP8.c23
  clear hP8 hT8 hld HX4 T4 HP4 CN
  go_wp2_with fail
  refine (CW.out _ HP5.out).mono ?_
  rintro e w9 ⟨⟨_, rfl⟩, hP9, hT9⟩
  have HP6 := Lib.hid hP9
  have T6 : Hid (Tur A.tg [3, 4, 5, 6, 7] w w9) := Lib.hid (T5.out.trans (hT9.sub (by simp)))
  clear hP9 hT9 T5 HP5 k3 CW
  go_wp2
  go_ret
  exact ⟨rfl, HP6.out, T6.out⟩
end
end Go.Proofs.YtpanmfdbdgecaaaGreat.C
