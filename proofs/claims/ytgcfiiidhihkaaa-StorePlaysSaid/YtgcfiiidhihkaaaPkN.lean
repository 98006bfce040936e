/- The walk of slab.New[api.Packet]; a slab of packets told by what its places have: the contracts. -/
import Derived.Test.YtgcfiiidhihkaaaPkT
namespace Go.Proofs.Ytgcfiiidhihkaaa.C.PS
open Go.RowKit
set_option linter.unusedVariables false
theorem rowP_setNext {l : List (Place (Array Value))} (h : AllPk l) {i : Nat} {p : Place (Array Value)} (hp : l[i]? = some p) (nx : Int) : rowP (l.set i { p with next := nx }) = (rowP l).setIfInBounds (i * 48 + 47) (.int .i64 nx) := by
  have hi := lt_of_some hp
  have hx := h.get hp
  have hsz := rowP_size h
  have hm := Nat.mul_le_mul_right 48 (show i + 1 ≤ l.length by omega)
  rw [rowP_set h hi (p := { p with next := nx }) hx]
  have hc : (cellP { p with next := nx }).length = 48 := cellP_len (p := { p with next := nx }) hx
  apply Array.ext_getElem?
  intro j
  rw [List.getElem?_toArray, splice_at (by simp only [Array.length_toList, hc]; omega), hc, Array.getElem?_toList]
  by_cases e : j = i * 48 + 47
  · subst e
    rw [if_neg (by omega), if_pos (by omega), Array.getElem?_setIfInBounds_self_of_lt (by omega), Nat.add_sub_cancel_left]
    have := hx.size
    simp [cellP, this]
  · rw [Array.getElem?_setIfInBounds_ne (by omega)]
    by_cases e0 : j < i * 48
    · rw [if_pos e0]
    · rw [if_neg e0]
      by_cases e1 : j < i * 48 + 48
      · rw [if_pos e1]
        have := rowP_at h hp (show j - i * 48 < 48 by omega)
        rw [show i * 48 + (j - i * 48) = j by omega] at this
        rw [this]
        have hs := hx.size
        unfold cellP
        by_cases e2 : j - i * 48 < 46
        · rw [List.getElem?_append_left (by simpa [hs] using e2), List.getElem?_append_left (by simpa [hs] using e2)]
        · have e3 : j - i * 48 = 46 := by omega
          rw [e3]
          simp [hs]
      · rw [if_neg e1]
theorem SAt.setNext {w : World} {pb b : Nat} {first free : Int} {l : List (Place (Array Value))} (h : SAt w pb b first free l) {i : Nat} {p : Place (Array Value)} (hp : l[i]? = some p) (nx : Int) :
    SAt (w.setCell ⟨b, i * 48 + 47, none⟩ (.int .i64 nx)) pb b first free (l.set i { p with next := nx }) := by
  refine ⟨?_, ?_, h.ok.set (i := i) (p := ⟨p.x, p.taken, nx⟩) (h.ok.get hp : Pk p.x)⟩
  · rw [heap_setCell_other _ _ _ _ (by simpa using h.ne), List.length_set]
    exact h.ptr
  · rw [heap_setCell_same _ b (i * 48 + 47) _ _ (.int .i64 nx) h.row, rowP_setNext h.ok hp]
def newL (n k : Nat) : List (Place (Array Value)) := (List.range n).map fun i => ⟨PZ, false, if i < k then (i : Int) + 1 else 0⟩
def newF (n : Nat) : List (Place (Array Value)) := (List.range n).map fun i => ⟨PZ, false, if i + 1 < n then (i : Int) + 1 else -1⟩
theorem newL_at (n k i : Nat) (hi : i < n) : (newL n k)[i]? = some ⟨PZ, false, if i < k then (i : Int) + 1 else 0⟩ := by simp [newL, hi]
theorem newL_length (n k : Nat) : (newL n k).length = n := by simp [newL]
theorem newF_length (n : Nat) : (newF n).length = n := by simp [newF]
theorem newL_ok (n k : Nat) : AllPk (newL n k) := fun p hp => by
  obtain ⟨i, _, rfl⟩ := List.mem_map.1 hp
  exact pk_zero
theorem newL_step (n k : Nat) (hk : k < n) : (newL n k).set k ⟨PZ, false, (k : Int) + 1⟩ = newL n (k + 1) := by
  apply List.ext_getElem?
  intro j
  by_cases hj : j < n
  · rw [newL_at n (k + 1) j hj]
    by_cases e : j = k
    · subst e
      rw [List.getElem?_set_self (by rw [newL_length]; exact hj), if_pos (by omega)]
    · rw [List.getElem?_set_ne (by omega), newL_at n k j hj]
      congr 2
      by_cases h : j < k
      · rw [if_pos h, if_pos (by omega)]
      · rw [if_neg h, if_neg (by omega)]
  · rw [List.getElem?_eq_none (by rw [List.length_set, newL_length]; omega), List.getElem?_eq_none (by rw [newL_length]; omega)]
theorem newL_last (n : Nat) (hn : 0 < n) : (newL n n).set (n - 1) ⟨PZ, false, -1⟩ = newF n := by
  apply List.ext_getElem?
  intro j
  by_cases hj : j < n
  · rw [show (newF n)[j]? = some ⟨PZ, false, if j + 1 < n then (j : Int) + 1 else -1⟩ by simp [newF, hj]]
    by_cases e : j = n - 1
    · subst e
      rw [List.getElem?_set_self (by rw [newL_length]; exact hj), if_neg (by omega)]
    · rw [List.getElem?_set_ne (by omega), newL_at n n j hj, if_pos hj, if_pos (by omega)]
  · rw [List.getElem?_eq_none (by rw [List.length_set, newL_length]; omega), List.getElem?_eq_none (by rw [newF_length]; omega)]
theorem made_rep (z : List Value) (m : Nat) (hz : z.length = m) (hm : 0 < m) : ∀ n : Nat, (madeCells z.toArray (n * m)).toList = (List.replicate n z).flatten := by
  intro n
  unfold madeCells
  rw [Array.toList_map, Array.toList_range]
  induction n with
  | zero => simp
  | succ n ih =>
    rw [Nat.succ_mul, List.range_add, List.map_append, ih, List.replicate_succ', List.flatten_append]
    congr 1
    simp only [List.flatten_cons, List.flatten_nil, List.append_nil, List.map_map]
    apply List.ext_getElem?
    intro j
    by_cases hj : j < m
    · simp only [List.getElem?_map, List.getElem?_range hj, Option.map_some, Function.comp]
      have : (n * m + j) % z.toArray.size = j := by
        rw [List.size_toArray, hz, Nat.mul_comm, Nat.mul_add_mod, Nat.mod_eq_of_lt hj]
      rw [this]
      have hjz : j < z.length := by omega
      rw [List.getElem?_eq_getElem hjz]
      simp [hjz]
    · rw [List.getElem?_eq_none (by simp; omega), List.getElem?_eq_none (by omega)]
theorem new_rows (n : Nat) : (newL n 0).map cellP = List.replicate n (cellP ⟨PZ, false, 0⟩) := by
  apply List.ext_getElem?
  intro j
  by_cases hj : j < n
  · rw [List.getElem?_map, newL_at n 0 j hj, List.getElem?_replicate, if_pos hj, if_neg (by omega)]
    rfl
  · rw [List.getElem?_eq_none (by rw [List.length_map, newL_length]; omega), List.getElem?_eq_none (by rw [List.length_replicate]; omega)]
theorem make_places (n : Nat) (hn : n ≤ 65536) (W : World) : (Instr.makeSlice 133 (.int .i64 (n : Int)) (.int .i64 (n : Int))).run Try.prog W = .ok (.slice (some ⟨W.heap.size, 0, none⟩) n n) (W.alloc (.cells (rowP (newL n 0)) 137)) := by
  obtain ⟨i0, hi, hz0, hz1, hz2⟩ := info_parts (show (Try.prog.info? 137).map (fun i => (i.zero, i.size, i.bytes)) = some (some (.agg (cellP ⟨PZ, false, 0⟩).toArray), 48, 80) by kernel_rfl)
  have hr := run_make (P := Try.prog) W 133 137 i0 (.agg (cellP ⟨PZ, false, 0⟩).toArray) Try.underlying133 hi hz0 .i64 .i64 n n (by omega) (by omega) (by rw [hz2]; omega) (by omega)
  simp only [Int.toNat_natCast] at hr
  rw [hr, hz1]
  have e : madeCells (Value.agg (cellP ⟨PZ, false, 0⟩).toArray).cells (n * 48) = rowP (newL n 0) := by
    apply Array.toList_inj.1
    unfold rowP
    rw [new_rows]
    exact made_rep _ 48 (cellP_len (p := ⟨PZ, false, 0⟩) pk_zero) (by omega) n
  rw [e]
theorem new_bad (n : Int) (w : World) (h : n < 1 ∨ 4096 < n) :
    Calls Try.prog 62 #[.int .i64 n] w fun e w' => e = .returned (.tuple #[.pointer none, .int .i64 1]) ∧ w' = w := by
  by_cases h1 : n < 1
  · go_enter Try.func62, Try.ntmps62
    go_wp2
    go_ret2
    exact ⟨rfl, rfl⟩
  · have h1' : 1 ≤ n := by omega
    have h2 : 4096 < n := by omega
    go_enter Try.func62, Try.ntmps62
    go_wp2
    go_ret2
    exact ⟨rfl, rfl⟩
set_option maxHeartbeats 800000 in
theorem new_ok (n : Nat) (w : World) (h1 : 1 ≤ n) (h2 : n ≤ 4096) :
    Calls Try.prog 62 #[.int .i64 n] w fun e w' => e = .returned (.tuple #[.pointer (some ⟨w.heap.size + 1, 0, none⟩), .int .i64 0]) ∧ SAt w' (w.heap.size + 1) w.heap.size 0 n (newF n) ∧ Below w.heap.size w w' := by
  have hmk := make_places n (by omega)
  have hd1 : decide (n < 1) = false := by simp; omega
  have hd2 : decide (4096 < n) = false := by simp; omega
  go_enter Try.func62, Try.ntmps62
  go_wp2
  clear hmk
  go_loopw [22] (fun c wr => ∃ k : Nat, k ≤ n ∧ c = .int .i64 k ∧ SAt wr (w.heap.size + 1) w.heap.size 0 n (newL n k) ∧ Below w.heap.size w wr)
    (fun c _ => n - (intOf c).toNat)
  case atStart => exact ⟨0, by omega, rfl, ⟨by rw [heap_alloc2_new, newL_length], by rw [heap_alloc2_old], newL_ok n 0⟩, ((Below.refl _ _).alloc (Nat.le_refl _) _).alloc (by simp) _⟩
  case round =>
    obtain ⟨k, hk, rfl, hS, hB⟩ := hrel
    by_cases hlt : k < n
    · have hp := newL_at n k k hlt
      have c0 := hS.c0
      rw [newL_length] at c0
      have q2 := hS.nx hp
      have f2 : wr.frozen? ⟨w.heap.size, k * 48 + 47, none⟩ = false := frozen_of_row _ _ _ _ _ hS.row
      have h3 := hS.setNext hp ((k : Int) + 1)
      rw [newL_step n k hlt] at h3
      have H3 := Lib.hid h3
      clear hS hp h3
      go_wp2
      go_roundw
      case rel => exact ⟨k + 1, by omega, by go_num, H3.out, hB.setCell (by simp) _⟩
      case measure => simp [intOf]; omega
    · obtain rfl : k = n := by omega
      have hp := newL_at k k (k - 1) (by omega)
      have c0 := hS.c0
      rw [newL_length] at c0
      have q2 := hS.nx hp
      have f2 : wr.frozen? ⟨w.heap.size, (k - 1) * 48 + 47, none⟩ = false := frozen_of_row _ _ _ _ _ hS.row
      have h3 := hS.setNext hp (-1)
      rw [newL_last k (by omega)] at h3
      have H3 := Lib.hid h3
      have hk1 : ((k : Int) - 1).toNat = k - 1 := by omega
      have hk2 : 0 ≤ (k : Int) - 1 := by omega
      clear hS hp h3
      go_wp2
      go_ret2
      exact ⟨rfl, H3.out, hB.setCell (by simp) _⟩
/-- A slab in memory, told by what its places have and which are free. -/
def Slab (w : World) (pb b : Nat) (A : List (Option (Array Value))) (fl : List Nat) : Prop := ∃ first free l, SAt w pb b first free l ∧ SInv l first free fl ∧ absP l = A ∧ l.length ≤ 4096
section
variable {w : World} {pb b : Nat} {A : List (Option (Array Value))} {fl : List Nat}
theorem Slab.mem (h : Slab w pb b A fl) (i : Nat) : i ∈ fl ↔ A[i]? = some none := by
  obtain ⟨first, free, l, hS, hI, rfl, hl⟩ := h
  exact hI.mem_iff i
theorem Slab.nodup (h : Slab w pb b A fl) : fl.Nodup := by
  obtain ⟨first, free, l, hS, hI, rfl, hl⟩ := h
  exact hI.nodup
theorem Slab.drewN (h : Slab w pb b A fl) (n : Nat) : Slab (w.drewN n) pb b A fl := by
  obtain ⟨first, free, l, hS, hI, hA, hl⟩ := h
  exact ⟨first, free, l, hS.drewN n, hI, hA, hl⟩
theorem Slab.below (h : Slab w pb b A fl) {w' : World} (p : Below w.heap.size w w') : Slab w' pb b A fl := by
  obtain ⟨first, free, l, hS, hI, hA, hl⟩ := h
  exact ⟨first, free, l, hS.below p, hI, hA, hl⟩
theorem Slab.two (h : Slab w pb b A fl) {w' : World} {g k : Nat} (p : Two g k w w') (h1 : pb ≠ g) (h2 : pb ≠ k) (h3 : b ≠ g) (h4 : b ≠ k) : Slab w' pb b A fl := by
  obtain ⟨first, free, l, hS, hI, hA, hl⟩ := h
  exact ⟨first, free, l, hS.two p h1 h2 h3 h4, hI, hA, hl⟩
theorem Slab.lt (h : Slab w pb b A fl) : pb < w.heap.size ∧ b < w.heap.size := by
  obtain ⟨first, free, l, hS, _⟩ := h
  exact ⟨(Array.getElem?_eq_some_iff.1 hS.ptr).1, (Array.getElem?_eq_some_iff.1 hS.row).1⟩
theorem Slab.pk (h : Slab w pb b A fl) {i : Nat} {x : Array Value} (hx : A[i]? = some (some x)) : Pk x := by
  obtain ⟨first, free, l, hS, hI, rfl, hl⟩ := h
  obtain ⟨k, nx, hk, hp⟩ := getA_some (l := l) (i := (i : Int)) (x := x) (by rw [getA_nat, hx]; rfl)
  exact hS.ok.get hp
theorem s_new (n : Nat) (w : World) (h1 : 1 ≤ n) (h2 : n ≤ 4096) :
    Calls Try.prog 62 #[.int .i64 n] w fun e w' => e = .returned (.tuple #[.pointer (some ⟨w.heap.size + 1, 0, none⟩), .int .i64 0]) ∧ Slab w' (w.heap.size + 1) w.heap.size (List.replicate n none) (List.range' 0 n) ∧ Below w.heap.size w w' := by
  refine (new_ok n w h1 h2).mono ?_
  rintro e w' ⟨rfl, hS, hB⟩
  refine ⟨rfl, ⟨0, n, newF n, hS, SInv.new _ n (by omega), ?_, by rw [newF_length]; omega⟩, hB⟩
  apply List.ext_getElem?
  intro j
  by_cases hj : j < n
  · simp [absP, newF, hj]
  · rw [List.getElem?_eq_none (by rw [absP_length, newF_length]; omega), List.getElem?_eq_none (by simp; omega)]
theorem s_take_no (x : Array Value) (h : Slab w pb b A []) :
    Calls Try.prog 64 #[.pointer (some ⟨pb, 0, none⟩), .agg x] w fun e w' => e = .returned (.tuple #[.int .i64 0, .bool false]) ∧ Below w.heap.size w w' := by
  obtain ⟨first, free, l, hS, hI, rfl, hl⟩ := h
  exact take_no pb b first free x l w hS hI.first_neg
theorem s_take_yes (i : Nat) (r : List Nat) (x : Array Value) (h : Slab w pb b A (i :: r)) (hx : Pk x) :
    Calls Try.prog 64 #[.pointer (some ⟨pb, 0, none⟩), .agg x] w fun e w' => e = .returned (.tuple #[.int .i64 i, .bool true]) ∧ Slab w' pb b (A.set i (some x)) r ∧ Two pb b w w' := by
  obtain ⟨first, free, l, hS, hI, rfl, hl⟩ := h
  obtain ⟨rfl, ⟨y, tk, nx⟩, hp, _⟩ := hI.head
  have hf := hI.free
  have hfl := hI.free_le
  refine (take_yes pb b i free nx x y tk l w hS (by omega) hp (by omega) (by omega) hx).mono ?_
  rintro e w' ⟨rfl, h1, h2⟩
  exact ⟨rfl, ⟨nx, free - 1, _, h1, hI.take hp x, by rw [absP_set]; rfl, by rw [List.length_set]; exact hl⟩, h2⟩
theorem s_give_no (i : Int) (h : Slab w pb b A fl) (hg : getA A i = none) :
    Calls Try.prog 68 #[.pointer (some ⟨pb, 0, none⟩), .int .i64 i] w fun e w' => e = .returned (.tuple #[.agg PZ, .bool false]) ∧ Below w.heap.size w w' := by
  obtain ⟨first, free, l, hS, hI, rfl, hl⟩ := h
  exact give_no pb b first free i l w hS (by omega) (by rw [getA_hasP, hg]; rfl)
theorem s_give_yes (i : Int) (x : Array Value) (h : Slab w pb b A fl) (hg : getA A i = some x) :
    Calls Try.prog 68 #[.pointer (some ⟨pb, 0, none⟩), .int .i64 i] w fun e w' => e = .returned (.tuple #[.agg x, .bool true]) ∧ Slab w' pb b (A.set i.toNat none) (i.toNat :: fl) ∧ Two pb b w w' := by
  obtain ⟨first, free, l, hS, hI, rfl, hl⟩ := h
  obtain ⟨k, nx, rfl, hp⟩ := getA_some hg
  have hf := hI.free
  have hfl := hI.free_le
  refine (give_yes pb b k first free nx x l w hS (by omega) hp (by omega) (by omega)).mono ?_
  rintro e w' ⟨rfl, h1, h2⟩
  exact ⟨rfl, ⟨k, free + 1, _, h1, hI.give hp rfl _, by rw [absP_set]; rfl, by rw [List.length_set]; exact hl⟩, h2⟩
theorem s_get_no (i : Int) (h : Slab w pb b A fl) (hg : getA A i = none) :
    Calls Try.prog 72 #[.pointer (some ⟨pb, 0, none⟩), .int .i64 i] w fun e w' => e = .returned (.tuple #[.agg PZ, .bool false]) ∧ Below w.heap.size w w' := by
  obtain ⟨first, free, l, hS, hI, rfl, hl⟩ := h
  exact get_no pb b first free i l w hS (by omega) (by rw [getA_hasP, hg]; rfl)
theorem s_get_yes (i : Int) (x : Array Value) (h : Slab w pb b A fl) (hg : getA A i = some x) :
    Calls Try.prog 72 #[.pointer (some ⟨pb, 0, none⟩), .int .i64 i] w fun e w' => e = .returned (.tuple #[.agg x, .bool true]) ∧ Below w.heap.size w w' := by
  obtain ⟨first, free, l, hS, hI, rfl, hl⟩ := h
  obtain ⟨k, nx, rfl, hp⟩ := getA_some hg
  exact get_yes pb b k first free nx l x w hS (by omega) hp
theorem s_free (h : Slab w pb b A fl) :
    Calls Try.prog 65 #[.pointer (some ⟨pb, 0, none⟩)] w fun e w' => e = .returned (.int .i64 fl.length) ∧ w' = w := by
  obtain ⟨first, free, l, hS, hI, rfl, hl⟩ := h
  have := free_any pb b first free l w hS
  rw [hI.free] at this
  exact this
theorem Slab.fl_le (h : Slab w pb b A fl) : fl.length ≤ A.length ∧ A.length ≤ 4096 := by
  obtain ⟨first, free, l, hS, hI, rfl, hl⟩ := h
  rw [absP_length]
  exact ⟨hI.free_le, hl⟩
end
end Go.Proofs.Ytgcfiiidhihkaaa.C.PS
