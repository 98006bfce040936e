/- The walks of quota.Add, Sub, Move, Bytes, Shared, New, over a quota that lies in memory. -/
import Derived.Test.YtflgpbjhjomogaaQuota
import Derived.Laws.MakeOwn
namespace Go.Proofs.Ytflgpbjhjomogaa.C
open Go.RowKit
set_option linter.unusedVariables false

/-- What is behind 'class c has n more'. -/
def putS (r s : Int) (l : List Int) (c n : Int) : Int := moreQ r s (l.getD c.toNat 0) n
def putL (l : List Int) (c n : Int) : List Int := l.set c.toNat (l.getD c.toNat 0 + n)
def addS (r m s : Int) (l : List Int) (c n : Int) : Int := if fitsB r m s l c n then putS r s l c n else s
def addL (r m s : Int) (l : List Int) (c n : Int) : List Int := if fitsB r m s l c n then putL l c n else l
def hasB (l : List Int) (c : Int) : Bool := decide (0 ≤ c) && decide (c < (l.length : Int))
def takesB (l : List Int) (c n : Int) : Bool := hasB l c && decide (0 ≤ n) && decide (n ≤ l.getD c.toNat 0)
def subS (r s : Int) (l : List Int) (c n : Int) : Int := if takesB l c n then putS r s l c (-n) else s
def subL (l : List Int) (c n : Int) : List Int := if takesB l c n then putL l c (-n) else l
def movesB (l : List Int) (c d n : Int) : Bool := hasB l d && takesB l c n
def moveS (r s : Int) (l : List Int) (c d n : Int) : Int := if movesB l c d n then putS r (subS r s l c n) (subL l c n) d n else s
def moveL (l : List Int) (c d n : Int) : List Int := if movesB l c d n then putL (subL l c n) d n else l
def bytesQ (l : List Int) (c : Int) : Int := if hasB l c then l.getD c.toNat 0 else 0

theorem fits_in {r m s : Int} {l : List Int} {c n : Int} (h : fitsB r m s l c n = true) : 0 ≤ c ∧ c.toNat < l.length ∧ 0 ≤ n ∧ n ≤ 1073741824 ∧ putS r s l c n ≤ m := by
  unfold fitsB at h
  simp only [Bool.and_eq_true, decide_eq_true_eq] at h
  obtain ⟨⟨⟨h1, h2⟩, h3⟩, h4⟩ := h
  cases hx : l[c.toNat]? with
  | none => rw [hx] at h4; cases h4
  | some x =>
    rw [hx] at h4
    have hlt : c.toNat < l.length := by
      rcases Nat.lt_or_ge c.toNat l.length with h | h
      · exact h
      · rw [List.getElem?_eq_none h] at hx; cases hx
    refine ⟨h1, hlt, h2, h3, ?_⟩
    unfold putS
    rw [List.getD_eq_getElem?_getD, hx]
    simpa using h4
theorem getD_range {r m s : Int} {l : List Int} (hok : QOk r m s l) (c : Nat) : 0 ≤ l.getD c 0 ∧ l.getD c 0 ≤ 1125899906842624 := by
  obtain ⟨_, _, _, _, _, _, _, h⟩ := hok
  rw [List.getD_eq_getElem?_getD]
  cases hx : l[c]? with
  | none => simp
  | some x => simpa using h x (List.mem_of_getElem? hx)

/-- put, at whatever class there is. -/
theorem put_at (pb b : Nat) (r m s c n : Int) (l : List Int) (w : World) (h : QAt w pb b r m s l) (hok : QOk r m s l) (hc0 : 0 ≤ c) (hc : c.toNat < l.length) (hn0 : -1125899906842624 ≤ n) (hn1 : n ≤ 1125899906842624) :
    Calls Try.prog 28 #[.pointer (some ⟨pb, 0, none⟩), .int .i64 c, .int .i64 n] w fun e w' => e = .returned (.tuple #[]) ∧ QAt w' pb b r m (putS r s l c n) (putL l c n) ∧ Two pb b w w' := by
  obtain ⟨x0, x1⟩ := getD_range hok c.toNat
  obtain ⟨hr0, hr1, hm0, hm1, hs0, hs1, hl, hx⟩ := hok
  obtain ⟨c, rfl⟩ := Int.eq_ofNat_of_zero_le hc0
  have hc' : c < l.length := by simpa using hc
  have he : l[c]? = some (l.getD c 0) := by rw [List.getD_eq_getElem?_getD, List.getElem?_eq_getElem hc']; rfl
  unfold putS putL
  rw [Int.toNat_natCast] at x0 x1 ⊢
  exact put_any pb b c r m s n _ l w h he hc' (by omega) hr0 hr1 (by omega) hs1 x0 x1 hn0 hn1

set_option maxHeartbeats 400000 in
theorem add_any (pb b : Nat) (r m s c n : Int) (l : List Int) (w : World) (h : QAt w pb b r m s l) (hok : QOk r m s l) (hc : c ≤ 4611686018427387904) :
    Calls Try.prog 15 #[.pointer (some ⟨pb, 0, none⟩), .int .i64 c, .int .i64 n] w fun e w' => e = .returned (.bool (fitsB r m s l c n)) ∧ QAt w' pb b r m (addS r m s l c n) (addL r m s l c n) ∧ Two pb b w w' := by
  have C1 := Lib.hid (fits_any pb b r m s c n l w h hok hc)
  unfold addS addL
  cases hf : fitsB r m s l c n with
  | false =>
    rw [hf] at C1
    have H := Lib.hid h
    clear h hf hok hc
    simp only [Bool.false_eq_true, if_false]
    go_enter Try.func15, Try.ntmps15
    go_wp2_with fail
    refine C1.out.mono ?_
    rintro e w1 ⟨rfl, k, rfl⟩
    go_wp2
    go_ret
    exact ⟨rfl, H.out.drewN k, (Two.refl _ _ _).drewN k⟩
  | true =>
    rw [hf] at C1
    obtain ⟨h1, h2, h3, h4, _⟩ := fits_in hf
    have C2 : Hid (∀ k, Calls Try.prog 28 #[.pointer (some ⟨pb, 0, none⟩), .int .i64 c, .int .i64 n] (w.drewN k) fun e w' => e = .returned (.tuple #[]) ∧ QAt w' pb b r m (putS r s l c n) (putL l c n) ∧ Two pb b (w.drewN k) w') :=
      fun k => put_at pb b r m s c n l (w.drewN k) (h.drewN k) hok h1 h2 (by omega) (by omega)
    clear h hf hok hc h1 h2 h3 h4
    simp only [if_true]
    go_enter Try.func15, Try.ntmps15
    go_wp2_with fail
    refine C1.out.mono ?_
    rintro e w1 ⟨rfl, k, rfl⟩
    go_wp2_with fail
    refine (C2.out k).mono ?_
    rintro e w2 ⟨rfl, hq, ht⟩
    go_wp2
    go_ret
    exact ⟨rfl, hq, ((Two.refl _ _ w).drewN k).trans ht⟩

/-- has, at whatever number. -/
theorem has_any (pb b : Nat) (r m s c : Int) (l : List Int) (w : World) (h : QAt w pb b r m s l) (hl : l.length ≤ 65536) :
    Calls Try.prog 29 #[.pointer (some ⟨pb, 0, none⟩), .int .i64 c] w fun e w' => e = .returned (.bool (hasB l c)) ∧ w' = w := by
  unfold hasB
  by_cases h0 : c < 0
  · rw [show decide (0 ≤ c) = false by simp; omega]
    exact has_no pb b r m s c l w h (.inl h0) hl
  · by_cases h1 : (l.length : Int) ≤ c
    · rw [show decide (c < (l.length : Int)) = false by simp; omega, Bool.and_false]
      exact has_no pb b r m s c l w h (.inr h1) hl
    · rw [show decide (0 ≤ c) = true by simp; omega, show decide (c < (l.length : Int)) = true by simp; omega]
      obtain ⟨c, rfl⟩ := Int.eq_ofNat_of_zero_le (show 0 ≤ c by omega)
      exact has_yes pb b c r m s l w h (by omega) hl
theorem bytes_nil (c : Int) (w : World) : Calls Try.prog 18 #[.pointer none, .int .i64 c] w fun e w' => e = .returned (.int .i64 0) ∧ w' = w := by
  go_enter Try.func18, Try.ntmps18
  go_wp2_with (go_at_call 29; refine (has_nil _ _).mono ?_; rintro e w1 ⟨rfl, rfl⟩)
  go_ret
  exact ⟨rfl, rfl⟩
theorem bytes_any (pb b : Nat) (r m s c : Int) (l : List Int) (w : World) (h : QAt w pb b r m s l) (hl : l.length ≤ 65536) :
    Calls Try.prog 18 #[.pointer (some ⟨pb, 0, none⟩), .int .i64 c] w fun e w' => e = .returned (.int .i64 (bytesQ l c)) ∧ w' = w := by
  have C := Lib.hid (has_any pb b r m s c l w h hl)
  unfold bytesQ
  cases hf : hasB l c with
  | false =>
    rw [hf] at C
    clear h hf
    simp only [Bool.false_eq_true, if_false]
    go_enter Try.func18, Try.ntmps18
    go_wp2_with fail
    refine C.out.mono ?_
    rintro e w1 ⟨rfl, rfl⟩
    go_wp2
    go_ret
    exact ⟨rfl, rfl⟩
  | true =>
    rw [hf] at C
    unfold hasB at hf
    simp only [Bool.and_eq_true, decide_eq_true_eq] at hf
    obtain ⟨hc0, hc1⟩ := hf
    obtain ⟨c, rfl⟩ := Int.eq_ofNat_of_zero_le hc0
    have hc' : c < l.length := by omega
    have he : l[c]? = some (l.getD c 0) := by rw [List.getD_eq_getElem?_getD, List.getElem?_eq_getElem hc']; rfl
    simp only [if_true, Int.toNat_natCast]
    have c3 := h.c3
    have hxc := h.at_ he
    clear h he
    generalize l.getD c 0 = x at *
    go_enter Try.func18, Try.ntmps18
    go_wp2_with fail
    refine C.out.mono ?_
    rintro e w1 ⟨rfl, rfl⟩
    go_wp2
    go_ret
    exact ⟨rfl, rfl⟩
theorem shared_any (pb b : Nat) (r m s : Int) (l : List Int) (w : World) (h : QAt w pb b r m s l) :
    Calls Try.prog 17 #[.pointer (some ⟨pb, 0, none⟩)] w fun e w' => e = .returned (.int .i64 s) ∧ w' = w := by
  have c2 := h.c2
  clear h
  go_enter Try.func17, Try.ntmps17
  go_wp2
  go_ret
  exact ⟨rfl, rfl⟩

set_option maxHeartbeats 400000 in
theorem sub_any (pb b : Nat) (r m s c n : Int) (l : List Int) (w : World) (h : QAt w pb b r m s l) (hok : QOk r m s l) (hn : n ≤ 9223372036854775807) (hn' : -9223372036854775808 ≤ n) :
    Calls Try.prog 22 #[.pointer (some ⟨pb, 0, none⟩), .int .i64 c, .int .i64 n] w fun e w' => e = .returned (.bool (takesB l c n)) ∧ QAt w' pb b r m (subS r s l c n) (subL l c n) ∧ Two pb b w w' := by
  have C := Lib.hid (has_any pb b r m s c l w h (by obtain ⟨_, _, _, _, _, _, h, _⟩ := hok; omega))
  unfold subS subL takesB
  cases hf : hasB l c with
  | false =>
    rw [hf] at C
    have H := Lib.hid h
    clear h hf hok
    simp only [Bool.false_and, Bool.false_eq_true, if_false]
    go_enter Try.func22, Try.ntmps22
    go_wp2_with fail
    refine C.out.mono ?_
    rintro e w1 ⟨rfl, rfl⟩
    go_wp2
    go_ret
    exact ⟨rfl, H.out, Two.refl _ _ _⟩
  | true =>
    rw [hf] at C
    unfold hasB at hf
    simp only [Bool.and_eq_true, decide_eq_true_eq] at hf
    obtain ⟨hc0, hc1⟩ := hf
    obtain ⟨x0, x1⟩ := getD_range hok c.toNat
    obtain ⟨c, rfl⟩ := Int.eq_ofNat_of_zero_le hc0
    have hc' : c < l.length := by omega
    have he : l[c]? = some (l.getD c 0) := by rw [List.getD_eq_getElem?_getD, List.getElem?_eq_getElem hc']; rfl
    have c3 := h.c3
    have hxc := h.at_ he
    have C2 : Hid (-1125899906842624 ≤ -n → -n ≤ 0 → Calls Try.prog 28 #[.pointer (some ⟨pb, 0, none⟩), .int .i64 c, .int .i64 (-n)] w fun e w' => e = .returned (.tuple #[]) ∧ QAt w' pb b r m (putS r s l c (-n)) (putL l c (-n)) ∧ Two pb b w w') :=
      fun h1 h2 => put_at pb b r m s c (-n) l w h hok (by omega) (by simpa using hc') h1 (by omega)
    have H := Lib.hid h
    simp only [Int.toNat_natCast, Bool.true_and] at x0 x1 ⊢
    clear h he hok
    obtain ⟨x, hx⟩ : ∃ x, l.getD c 0 = x := ⟨_, rfl⟩
    rw [hx] at x0 x1 hxc
    have HX := Lib.hid hx
    clear hx
    by_cases h0 : n < 0
    · rw [show decide (0 ≤ n) = false by simp; omega]
      simp only [Bool.false_and, Bool.false_eq_true, if_false]
      go_enter Try.func22, Try.ntmps22
      go_wp2_with fail
      refine C.out.mono ?_
      rintro e w1 ⟨rfl, rfl⟩
      go_wp2
      go_ret
      exact ⟨rfl, H.out, Two.refl _ _ _⟩
    · have h0' : 0 ≤ n := by omega
      rw [show decide (0 ≤ n) = true by simp; omega]
      by_cases h1 : n ≤ x
      · have h2 := C2.out (by omega) (by omega)
        have C2' := Lib.hid h2
        have hd : decide (n ≤ x) = true := by simpa using h1
        clear C2 h2
        have hg : decide (n ≤ l.getD c 0) = true := decide_eq_true (by rw [HX.out]; exact h1)
        rw [hg]
        clear hg
        simp only [Bool.true_and, if_true]
        go_enter Try.func22, Try.ntmps22
        go_wp2_with fail
        refine C.out.mono ?_
        rintro e w1 ⟨rfl, rfl⟩
        go_wp2_with fail
        refine C2'.out.mono ?_
        rintro e w2 ⟨rfl, hq, ht⟩
        go_wp2
        go_ret
        exact ⟨rfl, hq, ht⟩
      · have hd : decide (n ≤ x) = false := by simp; omega
        have hg : decide (n ≤ l.getD c 0) = false := decide_eq_false (by rw [HX.out]; exact h1)
        rw [hg]
        clear hg
        simp only [Bool.true_and, Bool.false_eq_true, if_false]
        go_enter Try.func22, Try.ntmps22
        go_wp2_with fail
        refine C.out.mono ?_
        rintro e w1 ⟨rfl, rfl⟩
        go_wp2
        go_ret
        exact ⟨rfl, H.out, Two.refl _ _ _⟩

theorem length_putL (l : List Int) (c n : Int) : (putL l c n).length = l.length := by simp [putL]
theorem length_subL (l : List Int) (c n : Int) : (subL l c n).length = l.length := by unfold subL; split; exact length_putL _ _ _; rfl
theorem length_addL (r m s : Int) (l : List Int) (c n : Int) : (addL r m s l c n).length = l.length := by unfold addL; split; exact length_putL _ _ _; rfl
theorem length_moveL (l : List Int) (c d n : Int) : (moveL l c d n).length = l.length := by unfold moveL; split; rw [length_putL, length_subL]; rfl

set_option maxHeartbeats 400000 in
theorem move_any (pb b : Nat) (r m s c d n : Int) (l : List Int) (w : World) (h : QAt w pb b r m s l) (hok : QOk r m s l) (hok2 : QOk r m (subS r s l c n) (subL l c n)) (hn : n ≤ 9223372036854775807) (hn' : -9223372036854775808 ≤ n) :
    Calls Try.prog 24 #[.pointer (some ⟨pb, 0, none⟩), .int .i64 c, .int .i64 d, .int .i64 n] w fun e w' => e = .returned (.bool (movesB l c d n)) ∧ QAt w' pb b r m (moveS r s l c d n) (moveL l c d n) ∧ Two pb b w w' := by
  have C := Lib.hid (has_any pb b r m s d l w h (by obtain ⟨_, _, _, _, _, _, h, _⟩ := hok; omega))
  have C2 := Lib.hid (sub_any pb b r m s c n l w h hok hn hn')
  unfold moveS moveL movesB
  cases hf : hasB l d with
  | false =>
    rw [hf] at C
    have H := Lib.hid h
    clear h hf hok hok2 C2
    simp only [Bool.false_and, Bool.false_eq_true, if_false]
    go_enter Try.func24, Try.ntmps24
    go_wp2_with fail
    refine C.out.mono ?_
    rintro e w1 ⟨rfl, rfl⟩
    go_wp2
    go_ret
    exact ⟨rfl, H.out, Two.refl _ _ _⟩
  | true =>
    rw [hf] at C
    cases ht : takesB l c n with
    | false =>
      have HL := Lib.hid (show subL l c n = l by unfold subL; rw [ht]; rfl)
      have HS := Lib.hid (show subS r s l c n = s by unfold subS; rw [ht]; rfl)
      rw [ht] at C2
      clear h hf hok hok2 ht
      simp only [Bool.true_and, Bool.false_eq_true, if_false]
      go_enter Try.func24, Try.ntmps24
      go_wp2_with fail
      refine C.out.mono ?_
      rintro e w1 ⟨rfl, rfl⟩
      go_wp2_with fail
      refine C2.out.mono ?_
      rintro e w2 ⟨rfl, hq, ht⟩
      rw [HL.out, HS.out] at hq
      go_wp2
      go_ret
      exact ⟨rfl, hq, ht⟩
    | true =>
      have hb : hasB (subL l c n) d = true := by unfold hasB at hf ⊢; rw [length_subL]; exact hf
      unfold hasB at hb
      simp only [Bool.and_eq_true, decide_eq_true_eq] at hb
      have hn2 : 0 ≤ n ∧ n ≤ 1125899906842624 := by
        have := getD_range hok c.toNat
        unfold takesB at ht
        simp only [Bool.and_eq_true, decide_eq_true_eq] at ht
        omega
      have C3 : Hid (∀ w2, QAt w2 pb b r m (subS r s l c n) (subL l c n) → Calls Try.prog 28 #[.pointer (some ⟨pb, 0, none⟩), .int .i64 d, .int .i64 n] w2 fun e w' => e = .returned (.tuple #[]) ∧ QAt w' pb b r m (putS r (subS r s l c n) (subL l c n) d n) (putL (subL l c n) d n) ∧ Two pb b w2 w') :=
        fun w2 h2 => put_at pb b r m _ d n _ w2 h2 hok2 hb.1 (by omega) (by omega) (by omega)
      rw [ht] at C2
      clear h hf hok hok2 ht hb hn2
      simp only [Bool.true_and, if_true]
      go_enter Try.func24, Try.ntmps24
      go_wp2_with fail
      refine C.out.mono ?_
      rintro e w1 ⟨rfl, rfl⟩
      go_wp2_with fail
      refine C2.out.mono ?_
      rintro e w2 ⟨rfl, hq, ht⟩
      go_wp2_with fail
      refine (C3.out w2 hq).mono ?_
      rintro e w3 ⟨rfl, hq3, ht3⟩
      go_wp2
      go_ret
      exact ⟨rfl, hq3, ht.trans ht3⟩

theorem new_bad (n r m : Int) (w : World) (h : n < 1 ∨ 129 < n ∨ r < 0 ∨ 1073741824 < r ∨ m < 0 ∨ 1073741824 < m) :
    Calls Try.prog 14 #[.int .i64 n, .int .i64 r, .int .i64 m] w fun e w' => e = .returned (.tuple #[.pointer none, .int .i64 1]) ∧ w' = w := by
  by_cases h1 : n < 1
  · go_enter Try.func14, Try.ntmps14
    go_wp2
    go_ret2
    exact ⟨rfl, rfl⟩
  have h1' : 1 ≤ n := by omega
  by_cases h2 : 129 < n
  · go_enter Try.func14, Try.ntmps14
    go_wp2
    go_ret2
    exact ⟨rfl, rfl⟩
  have h2' : n ≤ 129 := by omega
  by_cases h3 : r < 0
  · go_enter Try.func14, Try.ntmps14
    go_wp2
    go_ret2
    exact ⟨rfl, rfl⟩
  have h3' : 0 ≤ r := by omega
  by_cases h4 : 1073741824 < r
  · go_enter Try.func14, Try.ntmps14
    go_wp2
    go_ret2
    exact ⟨rfl, rfl⟩
  have h4' : r ≤ 1073741824 := by omega
  by_cases h5 : m < 0
  · go_enter Try.func14, Try.ntmps14
    go_wp2
    go_ret2
    exact ⟨rfl, rfl⟩
  have h5' : 0 ≤ m := by omega
  have h6 : 1073741824 < m := by omega
  go_enter Try.func14, Try.ntmps14
  go_wp2
  go_ret2
  exact ⟨rfl, rfl⟩
theorem made_ints (n : Nat) : madeCells #[.int .i64 0] n = ints (List.replicate n 0) := by
  apply Array.toList_inj.1
  rw [toList_madeCells_one]
  simp [ints]
theorem make_ints (n : Nat) (hn : n ≤ 65536) (W : World) : (Instr.makeSlice 50 (.int .i64 (n : Int)) (.int .i64 (n : Int))).run Try.prog W = .ok (.slice (some ⟨W.heap.size, 0, none⟩) n n) (W.alloc (.cells (ints (List.replicate n 0)) 2)) := by
  obtain ⟨i0, hi, hz0, hz1, hz2⟩ := info_parts (show (Try.prog.info? 2).map (fun i => (i.zero, i.size, i.bytes)) = some (some (.int .i64 0), 1, 8) by kernel_rfl)
  have hr := run_make (P := Try.prog) W 50 2 i0 (.int .i64 0) Try.underlying50 hi hz0 .i64 .i64 n n (by omega) (by omega) (by rw [hz2]; omega) (by omega)
  simp only [Int.toNat_natCast] at hr
  rw [hr, hz1, Nat.mul_one]
  show _ = Result.ok _ (W.alloc (.cells (ints (List.replicate n 0)) 2))
  rw [← made_ints]
  rfl
theorem new_ok (n : Nat) (r m : Int) (w : World) (h1 : 1 ≤ n) (h2 : n ≤ 129) (h3 : 0 ≤ r) (h4 : r ≤ 1073741824) (h5 : 0 ≤ m) (h6 : m ≤ 1073741824) :
    Calls Try.prog 14 #[.int .i64 n, .int .i64 r, .int .i64 m] w fun e w' => e = .returned (.tuple #[.pointer (some ⟨w.heap.size + 1, 0, none⟩), .int .i64 0]) ∧ QAt w' (w.heap.size + 1) w.heap.size r m 0 (List.replicate n 0) ∧ Below w.heap.size w w' := by
  have hmk := make_ints n (by omega)
  go_enter Try.func14, Try.ntmps14
  go_wp2
  go_ret2
  refine ⟨rfl, ⟨?_, ?_⟩, ((Below.refl _ _).alloc (Nat.le_refl _) _).alloc (by simp) _⟩
  · rw [heap_alloc2_new, List.length_replicate]
  · rw [heap_alloc2_old]
end Go.Proofs.Ytflgpbjhjomogaa.C
