/- The walk of QuotaPlays. -/
import Derived.Test.YtflgpbjhjomogaaQuotaK
import Derived.Test.YtflgpbjhjomogaaAct
namespace Go.Proofs.Ytflgpbjhjomogaa.C
open Go.RowKit
set_option linter.unusedVariables false
set_option maxRecDepth 100000 in
theorem plays_many (n r m : Int) (a : Option Addr) (len cap : Nat) (w : World) (h : 100 < len) (hm : len ≤ 9223372036854775807) :
    Calls Try.prog 8 #[.int .i64 n, .int .i64 r, .int .i64 m, .slice a len cap] w fun e w' => e = .returned (.bool true) ∧ Below w.heap.size w w' := by
  go_enter Try.func8, Try.ntmps8
  go_wp2_with fail
  refine (qawake _).mono ?_
  rintro e w1 ⟨rfl, hB1⟩
  go_wp2_with fail
  refine (qawake _).mono ?_
  rintro e w2 ⟨rfl, hB2⟩
  go_wp2
  go_ret
  exact ⟨rfl, hB1.trans (hB2.mono hB1.size)⟩
set_option maxRecDepth 100000 in
set_option maxHeartbeats 1000000 in
theorem plays_bad (n r m : Int) (a : Option Addr) (len cap : Nat) (w : World) (h : len ≤ 100) (hc : n < 1 ∨ (1 ≤ n ∧ 129 < n) ∨ (1 ≤ n ∧ n ≤ 129 ∧ r < 0) ∨ (1 ≤ n ∧ n ≤ 129 ∧ 0 ≤ r ∧ 1073741824 < r) ∨ (1 ≤ n ∧ n ≤ 129 ∧ 0 ≤ r ∧ r ≤ 1073741824 ∧ m < 0) ∨ (1 ≤ n ∧ n ≤ 129 ∧ 0 ≤ r ∧ r ≤ 1073741824 ∧ 0 ≤ m ∧ 1073741824 < m)) :
    Calls Try.prog 8 #[.int .i64 n, .int .i64 r, .int .i64 m, .slice a len cap] w fun e w' => e = .returned (.bool true) ∧ Below w.heap.size w w' := by
  have hgt : decide (100 < len) = false := by simp; omega
  have CN := Lib.hid (fun w' => new_bad n r m w' (by omega))
  have CB := Lib.hid (bytes_nil 0)
  have CF := Lib.hid (fits_nil 0 0)
  rcases hc with hc | ⟨hc0, hc⟩ | ⟨hc0, hc1, hc⟩ | ⟨hc0, hc1, hc2, hc⟩ | ⟨hc0, hc1, hc2, hc3, hc⟩ | ⟨hc0, hc1, hc2, hc3, hc4, hc⟩
  all_goals
    go_enter Try.func8, Try.ntmps8
    go_wp2_with fail
    refine (qawake _).mono ?_
    rintro e w1 ⟨rfl, hB1⟩
    go_wp2_with fail
    refine (CN.out _).mono ?_
    rintro e w2 ⟨rfl, rfl⟩
    go_wp2_with fail
    refine (CB.out _).mono ?_
    rintro e w2 ⟨rfl, rfl⟩
    go_wp2_with fail
    refine (CF.out _).mono ?_
    rintro e w2 ⟨rfl, q, rfl⟩
    go_wp2
    go_ret
    exact ⟨rfl, below_drewN hB1 q⟩
/-- .. with an act in its own box. -/
structure PA (w0 : World) (base bw qb ba g cap : Nat) (r m kd ac to an : Int) (lq lr : List Int) (w : World) : Prop where
  k : PK w0 base bw qb g cap r m lq lr w
  abox : w.heap[ba]? = some (.cells #[.int .u8 kd, .int .i8 ac, .int .i8 to, .int .i64 an] 44 (0, 0))
  at3 : bw < ba
section
variable {w0 w : World} {base bw qb ba g cap : Nat} {r m kd ac to an : Int} {lq lr : List Int}
theorem PA.drewN (h : PA w0 base bw qb ba g cap r m kd ac to an lq lr w) (n : Nat) : PA w0 base bw qb ba g cap r m kd ac to an lq lr (w.drewN n) := ⟨h.k.drewN n, h.abox, h.at3⟩
theorem PA.drew (h : PA w0 base bw qb ba g cap r m kd ac to an lq lr w) : PA w0 base bw qb ba g cap r m kd ac to an lq lr w.drew := ⟨h.k.drew, h.abox, h.at3⟩
theorem PA.next (h : PA w0 base bw qb ba g cap r m kd ac to an lq lr w) {w' : World} (p : Below w.heap.size w w') : PA w0 base bw qb ba g cap r m kd ac to an lq lr w' := ⟨h.k.next p, keepB p h.abox, h.at3⟩
theorem PA.two (h : PA w0 base bw qb ba g cap r m kd ac to an lq lr w) {w' : World} {lq' : List Int} (hq : QAt w' (qb + 1) qb r m (usedQ r lq') lq') (p : Two (qb + 1) qb w w') : PA w0 base bw qb ba g cap r m kd ac to an lq' lr w' := by
  have h1 := h.k.at1
  have h2 := h.k.at2
  have h3 := h.at3
  exact ⟨h.k.two hq p, (p.block ba (Array.getElem?_eq_some_iff.1 h.abox).1 (by omega) (by omega)).trans h.abox, h3⟩
theorem PA.store (h : PA w0 base bw qb ba g cap r m kd ac to an lq lr w) {g' cap' : Nat} {lr' : List Int} (hr : RAt w base g' cap' lr') :
    PA w0 base bw qb ba g' cap' r m kd ac to an lq lr' (((w.setCell ⟨bw, 0, none⟩ (.slice (some ⟨g', 0, none⟩) lr'.length cap')).setCell ⟨bw, 1, none⟩ (.int .i64 r)).setCell ⟨bw, 2, none⟩ (.int .i64 m)) := by
  have h3 := h.at3
  have ht : Two bw bw w (((w.setCell ⟨bw, 0, none⟩ (.slice (some ⟨g', 0, none⟩) lr'.length cap')).setCell ⟨bw, 1, none⟩ (.int .i64 r)).setCell ⟨bw, 2, none⟩ (.int .i64 m)) :=
    ((((Two.refl bw bw w).setCell (.inl rfl) _).setCell (.inl rfl) _).setCell (.inl rfl) _)
  exact ⟨h.k.store hr, (ht.block ba (Array.getElem?_eq_some_iff.1 h.abox).1 (by omega) (by omega)).trans h.abox, h3⟩
theorem PA.cells (h : PA w0 base bw qb ba g cap r m kd ac to an lq lr w) {n : Nat} (hn : lr.length = n) : w.cell? ⟨ba, 0, none⟩ = some (.int .u8 kd) ∧ w.cell? ⟨ba, 1, none⟩ = some (.int .i8 ac) ∧ w.cell? ⟨ba, 2, none⟩ = some (.int .i8 to) ∧ w.cell? ⟨ba, 3, none⟩ = some (.int .i64 an) ∧
    w.cell? ⟨bw, 0, none⟩ = some (.slice (some ⟨g, 0, none⟩) n cap) ∧ w.cell? ⟨bw, 1, none⟩ = some (.int .i64 r) ∧ w.cell? ⟨bw, 2, none⟩ = some (.int .i64 m) ∧ w.frozen? ⟨bw, 0, none⟩ = false ∧ w.frozen? ⟨bw, 1, none⟩ = false ∧ w.frozen? ⟨bw, 2, none⟩ = false :=
  hn ▸ ⟨by rw [cell_of_row _ _ _ _ _ _ h.abox]; rfl, by rw [cell_of_row _ _ _ _ _ _ h.abox]; rfl, by rw [cell_of_row _ _ _ _ _ _ h.abox]; rfl, by rw [cell_of_row _ _ _ _ _ _ h.abox]; rfl, box_facts h.k.box⟩
/-- What a way of an act does: the program's call and the reference's, alike. -/
structure Way (w0 : World) (base bw qb ba g cap : Nat) (r m kd ac to an : Int) (n k : Nat) (l : List Int) (fq fr : Nat) (aq ar : Array Value) : Prop where
  out : ∃ (f : Bool) (l1 : List Int), (∀ w', PA w0 base bw qb ba g cap r m kd ac to an l l w' → Calls Try.prog fq (#[.pointer (some ⟨qb + 1, 0, none⟩)] ++ aq) w' fun e w'' => e = .returned (.bool f) ∧ PA w0 base bw qb ba g cap r m kd ac to an l1 l w'') ∧
    (∀ w', PA w0 base bw qb ba g cap r m kd ac to an l1 l w' → Calls Try.prog fr (#[rv g cap n r m] ++ ar) w' fun e w'' => ∃ g' cap', e = .returned (.tuple #[rv g' cap' n r m, .bool f]) ∧ RAt w'' base g' cap' l1 ∧ PA w0 base bw qb ba g cap r m kd ac to an l1 l w'') ∧ InvP (k + 1) l1 ∧ l1.length = n
theorem way_add {n k : Nat} {l : List Int} (hI : InvP k l) (hk : k ≤ 100) (hl : l.length = n) (hn : n ≤ 129) (hr : 0 ≤ r ∧ r ≤ 1073741824) (hm : 0 ≤ m ∧ m ≤ 1073741824) (hac : ac ≤ 127) :
    Way w0 base bw qb ba g cap r m kd ac to an n k l 15 21 #[.int .i64 ac, .int .i64 an] #[.int .i64 ac, .int .i64 an] := by
  subst hl
  refine ⟨fitsB r m (usedQ r l) l ac an, addL r m (usedQ r l) l ac an, fun w' h => ?_, fun w' h => ?_, hI.add, by rw [length_addL]⟩
  · exact (add_any (qb + 1) qb r m (usedQ r l) ac an l w' h.k.q (hI.qok (by omega) hn hr hm) (by omega)).mono fun e w'' ⟨h1, h2, h3⟩ => ⟨h1, h.two (by rw [used_add]; exact h2) h3⟩
  · exact (radd_any base g cap r m ac an l w' h.k.row (hI.rok (by omega) hn hr)).mono fun e w'' ⟨g', cap', h1, h2, h3⟩ => ⟨g', cap', h1, h2, h.next h3⟩
theorem way_sub {n k : Nat} {l : List Int} (hI : InvP k l) (hk : k ≤ 100) (hl : l.length = n) (hn : n ≤ 129) (hr : 0 ≤ r ∧ r ≤ 1073741824) (hm : 0 ≤ m ∧ m ≤ 1073741824) (han : -9223372036854775808 ≤ an ∧ an ≤ 9223372036854775807) :
    Way w0 base bw qb ba g cap r m kd ac to an n k l 22 23 #[.int .i64 ac, .int .i64 an] #[.int .i64 ac, .int .i64 an] := by
  subst hl
  refine ⟨takesB l ac an, subL l ac an, fun w' h => ?_, fun w' h => ?_, hI.sub, by rw [length_subL]⟩
  · exact (sub_any (qb + 1) qb r m (usedQ r l) ac an l w' h.k.q (hI.qok (by omega) hn hr hm) han.2 han.1).mono fun e w'' ⟨h1, h2, h3⟩ => ⟨h1, h.two (by rw [used_sub]; exact h2) h3⟩
  · exact (rsub_any base g cap r m ac an l w' h.k.row (hI.rok (by omega) hn hr) han.1).mono fun e w'' ⟨g', cap', h1, h2, h3⟩ => ⟨g', cap', h1, h2, h.next h3⟩
theorem way_move {n k : Nat} {l : List Int} (hI : InvP k l) (hk : k ≤ 100) (hl : l.length = n) (hn : n ≤ 129) (hr : 0 ≤ r ∧ r ≤ 1073741824) (hm : 0 ≤ m ∧ m ≤ 1073741824) (han : -9223372036854775808 ≤ an ∧ an ≤ 9223372036854775807) :
    Way w0 base bw qb ba g cap r m kd ac to an n k l 24 25 #[.int .i64 ac, .int .i64 to, .int .i64 an] #[.int .i64 ac, .int .i64 to, .int .i64 an] := by
  subst hl
  refine ⟨movesB l ac to an, moveL l ac to an, fun w' h => ?_, fun w' h => ?_, hI.move, by rw [length_moveL]⟩
  · have h2 := (hI.sub (c := ac) (n := an)).qok (r := r) (m := m) (by omega) (by rw [length_subL]; exact hn) hr hm
    rw [used_sub] at h2
    exact (move_any (qb + 1) qb r m (usedQ r l) ac to an l w' h.k.q (hI.qok (by omega) hn hr hm) h2 han.2 han.1).mono fun e w'' ⟨h1, h2, h3⟩ => ⟨h1, h.two (by rw [used_move]; exact h2) h3⟩
  · exact (rmove_any base g cap r m ac to an l w' h.k.row (hI.rok (by omega) hn hr) han.1).mono fun e w'' ⟨g', cap', h1, h2, h3⟩ => ⟨g', cap', h1, h2, h.next h3⟩
end
set_option maxRecDepth 100000 in
set_option maxHeartbeats 4000000 in
theorem plays_main (n : Nat) (r m : Int) (a : Option Addr) (len cap : Nat) (w : World) (h : len ≤ 100) (h1 : 1 ≤ n) (h2 : n ≤ 129) (h3 : 0 ≤ r) (h4 : r ≤ 1073741824) (h5 : 0 ≤ m) (h6 : m ≤ 1073741824) (hA : Acts w a len) :
    Calls Try.prog 8 #[.int .i64 (n : Nat), .int .i64 r, .int .i64 m, .slice a len cap] w fun e w' => e = .returned (.bool true) ∧ Below w.heap.size w w' := by
  have hgt : decide (100 < len) = false := by simp; omega
  have HA := Lib.hid hA
  clear hA
  go_enter Try.func8, Try.ntmps8
  go_wp2_with fail
  refine (qawake _).mono ?_
  rintro e w1 ⟨rfl, hB1⟩
  have CN := Lib.hid (new_ok n r m w1 h1 h2 h3 h4 h5 h6)
  go_wp2_with fail
  refine CN.out.mono ?_
  rintro e w2 ⟨rfl, hQ, hB2⟩
  have hlt := (Array.getElem?_eq_some_iff.1 hQ.ptr).1
  have CR := Lib.hid (rnew_ok n r m w2 w2.heap.size (Nat.le_refl _) h1 h2)
  have hB := hB1.trans (hB2.mono hB1.size)
  have hs1 := hB1.size
  have HQ := Lib.hid hQ
  clear CN hB1 hB2 hQ
  go_wp2_with fail
  refine CR.out.mono ?_
  rintro e w3 ⟨g, cap3, rfl, hR, hB3⟩
  have hP : PK w w2.heap.size w3.heap.size w1.heap.size g cap3 r m (List.replicate n 0) (List.replicate n 0) (w3.alloc (.cells #[.slice (some ⟨g, 0, none⟩) n cap3, .int .i64 r, .int .i64 m] 52)) := by
    refine ⟨?_, hR.alloc _, ?_, (hB.trans (hB3.mono hB.size)).alloc (by have := hB.size; have := hB3.size; omega) _, hs1, hlt, hB3.size⟩
    · have : usedQ r (List.replicate n 0) = 0 := by
        have h0 := used_le h3 (InvP.zero n).nn
        have := (InvP.zero n).sum
        omega
      rw [this]
      exact (HQ.out.below hB3).below ((Below.refl _ _).alloc (Nat.le_refl _) _)
    · rw [Go.heap_alloc_new, List.length_replicate]
  have HP := Lib.hid hP
  clear hP HQ hR hB3 hB CR hlt hs1
  go_upto_region 7 with (fail)
  generalize w3.alloc (.cells #[.slice (some ⟨g, 0, none⟩) n cap3, .int .i64 r, .int .i64 m] 52) = w4 at *
  generalize w3.heap.size = bw at *
  generalize w2.heap.size = base at *
  generalize w1.heap.size = qb at *
  go_wp2_with fail
  go_loopw [76] (fun c wr => ∃ (k : Nat) (l : List Int) (g cap : Nat), k ≤ len ∧ c = .int .i64 k ∧ PK w base bw qb g cap r m l l wr ∧ InvP k l ∧ l.length = n) (fun c _ => len - (intOf c).toNat)
  case atStart => exact ⟨0, _, _, _, by omega, rfl, HP.out, InvP.zero n, by simp⟩
  case round =>
    obtain ⟨k, l, g, cap', hk, rfl, hP, hI, hlN⟩ := hrel
    by_cases hlt : k < len
    · obtain ⟨x, kd, ac, to, an, rfl, hx, hact, hkd, hac, hto, han⟩ := HA.out k hlt
      obtain ⟨q0, q1, q2, q3⟩ := hact.below hP.below hx
      have HP1 := Lib.hid hP
      have HI := Lib.hid hI
      have HL := Lib.hid hlN
      obtain ⟨kd, rfl⟩ := Int.eq_ofNat_of_zero_le hkd.1
      have hsz := (Array.getElem?_eq_some_iff.1 hP.box).1
      have hPA : PA w base bw qb wr.heap.size g cap' r m (kd : Nat) ac to an l l (wr.alloc (.cells #[.int .u8 (kd : Nat), .int .i8 ac, .int .i8 to, .int .i64 an] 44)) := ⟨hP.next ((Below.refl _ _).alloc (Nat.le_refl _) _), Go.heap_alloc_new _ _, hsz⟩
      have C16 : Hid (∀ w', PA w base bw qb wr.heap.size g cap' r m (kd : Nat) ac to an l l w' → Calls Try.prog 16 #[.pointer (some ⟨qb + 1, 0, none⟩), .int .i64 ac, .int .i64 an] w' fun e w'' => e = .returned (.bool (fitsB r m (usedQ r l) l ac an)) ∧ PA w base bw qb wr.heap.size g cap' r m (kd : Nat) ac to an l l w'') :=
        fun w' h => (fits_any (qb + 1) qb r m (usedQ r l) ac an l w' h.k.q (hI.qok (by omega) (by omega) ⟨h3, h4⟩ ⟨h5, h6⟩) (by omega)).mono fun e w'' ⟨e1, q, e2⟩ => by subst e2; exact ⟨e1, h.drewN q⟩
      have C20 : Hid (∀ w', PA w base bw qb wr.heap.size g cap' r m (kd : Nat) ac to an l l w' → Calls Try.prog 20 #[rv g cap' n r m, .int .i64 ac, .int .i64 an] w' fun e w'' => e = .returned (.bool (fitsB r m (usedQ r l) l ac an)) ∧ PA w base bw qb wr.heap.size g cap' r m (kd : Nat) ac to an l l w'') :=
        fun w' h => by
          have := rfits_any base g cap' r m ac an l w' h.k.row (hI.rok (by omega) (by omega) ⟨h3, h4⟩)
          rw [hlN] at this
          exact this.mono fun e w'' ⟨e1, e2⟩ => ⟨e1, h.next e2⟩
      have W1 := Lib.hid (way_add (w0 := w) (base := base) (bw := bw) (qb := qb) (ba := wr.heap.size) (g := g) (cap := cap') (kd := (kd : Nat)) (to := to) (an := an) hI (by omega) hlN h2 ⟨h3, h4⟩ ⟨h5, h6⟩ hac.2)
      have W2 := Lib.hid (way_sub (w0 := w) (base := base) (bw := bw) (qb := qb) (ba := wr.heap.size) (g := g) (cap := cap') (kd := (kd : Nat)) (ac := ac) (to := to) hI (by omega) hlN h2 ⟨h3, h4⟩ ⟨h5, h6⟩ han)
      have W3 := Lib.hid (way_move (w0 := w) (base := base) (bw := bw) (qb := qb) (ba := wr.heap.size) (g := g) (cap := cap') (kd := (kd : Nat)) (ac := ac) (to := to) hI (by omega) hlN h2 ⟨h3, h4⟩ ⟨h5, h6⟩ han)
      have HL := Lib.hid hlN
      generalize fitsB r m (usedQ r l) l ac an = fb at *
      clear hact hP hI hlN HP hsz
      have hwa : IntKind.i64.wrap ac = ac := IntWalk.i64_in _ (by omega)
      have hwt : IntKind.i64.wrap to = to := IntWalk.i64_in _ (by omega)
      have hx4 : kd % 4 = 0 ∨ kd % 4 = 1 ∨ kd % 4 = 2 ∨ kd % 4 = 3 := by omega
      go_wp2_with fail
      generalize wr.alloc (.cells #[.int .u8 (kd : Nat), .int .i8 ac, .int .i8 to, .int .i64 an] 44) = wA at *
      generalize wr.heap.size = ba at *
      refine wp_region_class (PA w base bw qb ba g cap' r m (kd : Nat) ac to an l l) (by kernel_rfl) (by kernel_rfl) hPA.drew ?_
      refine wpQuiet_step (fun K hK => ?_)
      rw [if_pos (by rfl)]
      refine ⟨?_, fun w hSw => ?_, hK _ ?_⟩
      rotate_left
      · clear hSw
        go_simp
        try with_reducible rfl
      clear hK K
      try simp only [Act.put, List.setIfInBounds_toArray, List.set_cons_zero, List.set_cons_succ]
      refine wpQuiet_step (fun K hK => ?_)
      rw [if_pos (by rfl)]
      refine ⟨?_, fun w hSw => ?_, hK _ ?_⟩
      rotate_left
      · clear hSw
        go_simp
        try with_reducible rfl
      clear hK K
      try simp only [Act.put, List.setIfInBounds_toArray, List.set_cons_zero, List.set_cons_succ]
      refine wpQuiet_step (fun K hK => ?_)
      rw [if_pos (by rfl)]
      refine ⟨?_, fun w hSw => ?_, hK _ ?_⟩
      rotate_left
      · obtain ⟨p0, p1, p2, p3, p4, p5, p6, p7, p8, p9⟩ := hSw.cells HL.out
        go_simp
        try with_reducible rfl
      clear hK K
      try simp only [Act.put, List.setIfInBounds_toArray, List.set_cons_zero, List.set_cons_succ]
      refine wpQuiet_step (fun K hK => ?_)
      rw [if_pos (by rfl)]
      refine ⟨?_, fun w hSw => ?_, hK _ ?_⟩
      rotate_left
      · clear hSw
        go_simp
        try with_reducible rfl
      clear hK K
      try simp only [Act.put, List.setIfInBounds_toArray, List.set_cons_zero, List.set_cons_succ]
      refine wpQuiet_step (fun K hK => ?_)
      rw [if_pos (by rfl)]
      refine ⟨?_, fun w hSw => ?_, hK _ ?_⟩
      rotate_left
      · clear hSw
        go_simp
        try with_reducible rfl
      clear hK K
      try simp only [Act.put, List.setIfInBounds_toArray, List.set_cons_zero, List.set_cons_succ]
      refine wpQuiet_step (fun K hK => ?_)
      rw [if_pos (by rfl)]
      refine ⟨?_, fun w hSw => ?_, hK _ ?_⟩
      rotate_left
      · obtain ⟨p0, p1, p2, p3, p4, p5, p6, p7, p8, p9⟩ := hSw.cells HL.out
        go_simp
        try with_reducible rfl
      clear hK K
      try simp only [Act.put, List.setIfInBounds_toArray, List.set_cons_zero, List.set_cons_succ]
      refine wpQuiet_step (fun K hK => ?_)
      rw [if_pos (by rfl)]
      refine ⟨?_, fun w hSw => ?_, hK _ ?_⟩
      rotate_left
      · go_simp
        go_at_call 16
        with_reducible exact C16.out w hSw
      clear hK K
      try simp only [Act.put, List.setIfInBounds_toArray, List.set_cons_zero, List.set_cons_succ]
      refine wpQuiet_step (fun K hK => ?_)
      rw [if_pos (by rfl)]
      refine ⟨?_, fun w hSw => ?_, hK _ ?_⟩
      rotate_left
      · obtain ⟨p0, p1, p2, p3, p4, p5, p6, p7, p8, p9⟩ := hSw.cells HL.out
        go_simp
        try with_reducible rfl
      clear hK K
      try simp only [Act.put, List.setIfInBounds_toArray, List.set_cons_zero, List.set_cons_succ]
      refine wpQuiet_step (fun K hK => ?_)
      rw [if_pos (by rfl)]
      refine ⟨?_, fun w hSw => ?_, hK _ ?_⟩
      rotate_left
      · clear hSw
        go_simp
        try with_reducible rfl
      clear hK K
      try simp only [Act.put, List.setIfInBounds_toArray, List.set_cons_zero, List.set_cons_succ]
      refine wpQuiet_step (fun K hK => ?_)
      rw [if_pos (by rfl)]
      refine ⟨?_, fun w hSw => ?_, hK _ ?_⟩
      rotate_left
      · obtain ⟨p0, p1, p2, p3, p4, p5, p6, p7, p8, p9⟩ := hSw.cells HL.out
        go_simp
        try with_reducible rfl
      clear hK K
      try simp only [Act.put, List.setIfInBounds_toArray, List.set_cons_zero, List.set_cons_succ]
      refine wpQuiet_step (fun K hK => ?_)
      rw [if_pos (by rfl)]
      refine ⟨?_, fun w hSw => ?_, hK _ ?_⟩
      rotate_left
      · clear hSw
        go_simp
        try with_reducible rfl
      clear hK K
      try simp only [Act.put, List.setIfInBounds_toArray, List.set_cons_zero, List.set_cons_succ]
      refine wpQuiet_step (fun K hK => ?_)
      rw [if_pos (by rfl)]
      refine ⟨?_, fun w hSw => ?_, hK _ ?_⟩
      rotate_left
      · clear hSw
        go_simp
        try with_reducible rfl
      clear hK K
      try simp only [Act.put, List.setIfInBounds_toArray, List.set_cons_zero, List.set_cons_succ]
      refine wpQuiet_step (fun K hK => ?_)
      rw [if_pos (by rfl)]
      refine ⟨?_, fun w hSw => ?_, hK _ ?_⟩
      rotate_left
      · obtain ⟨p0, p1, p2, p3, p4, p5, p6, p7, p8, p9⟩ := hSw.cells HL.out
        go_simp
        try with_reducible rfl
      clear hK K
      try simp only [Act.put, List.setIfInBounds_toArray, List.set_cons_zero, List.set_cons_succ]
      refine wpQuiet_step (fun K hK => ?_)
      rw [if_pos (by rfl)]
      refine ⟨?_, fun w hSw => ?_, hK _ ?_⟩
      rotate_left
      · go_simp
        go_at_call 20
        with_reducible exact C20.out w hSw
      clear hK K
      try simp only [Act.put, List.setIfInBounds_toArray, List.set_cons_zero, List.set_cons_succ]
      refine wpQuiet_step (fun K hK => ?_)
      rw [if_pos (by rfl)]
      refine ⟨?_, fun w hSw => ?_, hK _ ?_⟩
      rotate_left
      · clear hSw
        go_simp
        try with_reducible rfl
      clear hK K
      try simp only [Act.put, List.setIfInBounds_toArray, List.set_cons_zero, List.set_cons_succ]
      refine wpQuiet_nil ?_
      intro w9 hHeld
      clear hPA C16 C20 q0 q1 q2 q3
      rcases hx4 with h4' | h4' | h4' | h4'
      all_goals
        have e0 : (kd : Int) % 4 = ((kd % 4 : Nat) : Int) := by omega
        rw [h4'] at e0
        clear h4'
        obtain ⟨p0, p1, p2, p3, p4, p5, p6, p7, p8, p9⟩ := hHeld.cells HL.out
        have HH := Lib.hid hHeld
        clear hHeld
        go_wp2_with fail
        first
          | go_at_call 15; obtain ⟨f, l1, CQ, CR, hI1, hL1⟩ := W1.out.out
          | go_at_call 22; obtain ⟨f, l1, CQ, CR, hI1, hL1⟩ := W2.out.out
          | go_at_call 24; obtain ⟨f, l1, CQ, CR, hI1, hL1⟩ := W3.out.out
        have CR := Lib.hid CR
        have HI1 := Lib.hid hI1
        have HL1 := Lib.hid hL1
        refine (CQ _ HH.out).mono ?_
        clear CQ hI1 hL1 W1 W2 W3 p0 p1 p2 p3 p4 p5 p6 p7 p8 p9 HH
        rintro e w5 ⟨rfl, hPA5⟩
        obtain ⟨p0, p1, p2, p3, p4, p5, p6, p7, p8, p9⟩ := hPA5.cells HL.out
        have H5 := Lib.hid hPA5
        clear hPA5
        go_wp2_with fail
        refine (CR.out _ H5.out).mono ?_
        clear CR p0 p1 p2 p3 p4 p5 p6 p7 p8 p9 H5
        rintro e w6 ⟨g6, cap6, rfl, hR6, hPA6⟩
        obtain ⟨p0, p1, p2, p3, p4, p5, p6, p7, p8, p9⟩ := hPA6.cells HL.out
        have hPA7 := hPA6.store hR6
        rw [HL1.out] at hPA7
        clear hR6 hPA6
        go_upto_region 24 with (fail)
        generalize (((w6.setCell ⟨bw, 0, none⟩ (.slice (some ⟨g6, 0, none⟩) n cap6)).setCell ⟨bw, 1, none⟩ (.int .i64 r)).setCell ⟨bw, 2, none⟩ (.int .i64 m)) = w7 at *
        clear p0 p1 p2 p3 p4 p5 p6 p7 p8 p9
        have C17 : Hid (∀ w', PA w base bw qb ba g6 cap6 r m (kd : Nat) ac to an l1 l1 w' → Calls Try.prog 17 #[.pointer (some ⟨qb + 1, 0, none⟩)] w' fun e w'' => e = .returned (.int .i64 (usedQ r l1)) ∧ PA w base bw qb ba g6 cap6 r m (kd : Nat) ac to an l1 l1 w'') :=
          fun w' h => (shared_any (qb + 1) qb r m (usedQ r l1) l1 w' h.k.q).mono fun e w'' ⟨e1, e2⟩ => by subst e2; exact ⟨e1, h⟩
        have C26 : Hid (∀ w', PA w base bw qb ba g6 cap6 r m (kd : Nat) ac to an l1 l1 w' → Calls Try.prog 26 #[rv g6 cap6 n r m] w' fun e w'' => e = .returned (.int .i64 (usedQ r l1)) ∧ PA w base bw qb ba g6 cap6 r m (kd : Nat) ac to an l1 l1 w'') :=
          fun w' h => by
            have := rused_any base g6 cap6 r m l1 w' h.k.row (by rw [HL1.out]; exact h2) ⟨h3, h4⟩ (fun x hx => by have := HI1.out.bound (by omega) x hx; omega)
            rw [HL1.out] at this
            exact this.mono fun e w'' ⟨e1, e2⟩ => ⟨e1, h.next e2⟩
        generalize usedQ r l1 = us at *
        refine wp_region_class (PA w base bw qb ba g6 cap6 r m (kd : Nat) ac to an l1 l1) (by kernel_rfl) (by kernel_rfl) hPA7.drew ?_
        refine wpQuiet_step (fun K hK => ?_)
        rw [if_pos (by rfl)]
        refine ⟨?_, fun w hSw => ?_, hK _ ?_⟩
        rotate_left
        · clear hSw
          go_simp
          try with_reducible rfl
        clear hK K
        try simp only [Act.put, List.setIfInBounds_toArray, List.set_cons_zero, List.set_cons_succ]
        refine wpQuiet_step (fun K hK => ?_)
        rw [if_pos (by rfl)]
        refine ⟨?_, fun w hSw => ?_, hK _ ?_⟩
        rotate_left
        · clear hSw
          go_simp
          try with_reducible rfl
        clear hK K
        try simp only [Act.put, List.setIfInBounds_toArray, List.set_cons_zero, List.set_cons_succ]
        refine wpQuiet_step (fun K hK => ?_)
        rw [if_pos (by rfl)]
        refine ⟨?_, fun w hSw => ?_, hK _ ?_⟩
        rotate_left
        · clear hSw
          go_simp
          try with_reducible rfl
        clear hK K
        try simp only [Act.put, List.setIfInBounds_toArray, List.set_cons_zero, List.set_cons_succ]
        refine wpQuiet_step (fun K hK => ?_)
        rw [if_pos (by rfl)]
        refine ⟨?_, fun w hSw => ?_, hK _ ?_⟩
        rotate_left
        · clear hSw
          go_simp
          try with_reducible rfl
        clear hK K
        try simp only [Act.put, List.setIfInBounds_toArray, List.set_cons_zero, List.set_cons_succ]
        refine wpQuiet_step (fun K hK => ?_)
        rw [if_pos (by rfl)]
        refine ⟨?_, fun w hSw => ?_, hK _ ?_⟩
        rotate_left
        · clear hSw
          go_simp
          try with_reducible rfl
        clear hK K
        try simp only [Act.put, List.setIfInBounds_toArray, List.set_cons_zero, List.set_cons_succ]
        refine wpQuiet_step (fun K hK => ?_)
        rw [if_pos (by rfl)]
        refine ⟨?_, fun w hSw => ?_, hK _ ?_⟩
        rotate_left
        · go_simp
          go_at_call 17
          with_reducible exact C17.out w hSw
        clear hK K
        try simp only [Act.put, List.setIfInBounds_toArray, List.set_cons_zero, List.set_cons_succ]
        refine wpQuiet_step (fun K hK => ?_)
        rw [if_pos (by rfl)]
        refine ⟨?_, fun w hSw => ?_, hK _ ?_⟩
        rotate_left
        · obtain ⟨p0, p1, p2, p3, p4, p5, p6, p7, p8, p9⟩ := hSw.cells HL1.out
          go_simp
          try with_reducible rfl
        clear hK K
        try simp only [Act.put, List.setIfInBounds_toArray, List.set_cons_zero, List.set_cons_succ]
        refine wpQuiet_step (fun K hK => ?_)
        rw [if_pos (by rfl)]
        refine ⟨?_, fun w hSw => ?_, hK _ ?_⟩
        rotate_left
        · go_simp
          go_at_call 26
          with_reducible exact C26.out w hSw
        clear hK K
        try simp only [Act.put, List.setIfInBounds_toArray, List.set_cons_zero, List.set_cons_succ]
        refine wpQuiet_step (fun K hK => ?_)
        rw [if_pos (by rfl)]
        refine ⟨?_, fun w hSw => ?_, hK _ ?_⟩
        rotate_left
        · clear hSw
          go_simp
          try with_reducible rfl
        clear hK K
        try simp only [Act.put, List.setIfInBounds_toArray, List.set_cons_zero, List.set_cons_succ]
        refine wpQuiet_step (fun K hK => ?_)
        rw [if_pos (by rfl)]
        refine ⟨?_, fun w hSw => ?_, hK _ ?_⟩
        rotate_left
        · clear hSw
          go_simp
          try with_reducible rfl
        clear hK K
        try simp only [Act.put, List.setIfInBounds_toArray, List.set_cons_zero, List.set_cons_succ]
        refine wpQuiet_nil ?_
        intro w9 hHeld
        clear hPA7 C17 C26
        have C18 : Hid (∀ (c : Int) w', c ≤ 4611686018427387904 → PA w base bw qb ba g6 cap6 r m (kd : Nat) ac to an l1 l1 w' → Calls Try.prog 18 #[.pointer (some ⟨qb + 1, 0, none⟩), .int .i64 c] w' fun e w'' => e = .returned (.int .i64 (bytesQ l1 c)) ∧ PA w base bw qb ba g6 cap6 r m (kd : Nat) ac to an l1 l1 w'') :=
          fun c w' hc h => (bytes_any (qb + 1) qb r m _ c l1 w' h.k.q (by rw [HL1.out]; omega)).mono fun e w'' ⟨e1, e2⟩ => by subst e2; exact ⟨e1, h⟩
        have C27 : Hid (∀ (c : Int) w', PA w base bw qb ba g6 cap6 r m (kd : Nat) ac to an l1 l1 w' → Calls Try.prog 27 #[rv g6 cap6 n r m, .int .i64 c] w' fun e w'' => e = .returned (.int .i64 (bytesQ l1 c)) ∧ PA w base bw qb ba g6 cap6 r m (kd : Nat) ac to an l1 l1 w'') :=
          fun c w' h => by
            have := rbytes_any base g6 cap6 r m c l1 w' h.k.row (by rw [HL1.out]; omega)
            rw [HL1.out] at this
            exact this.mono fun e w'' ⟨e1, e2⟩ => ⟨e1, h.next e2⟩
        have H9 := Lib.hid hHeld
        clear hHeld
        go_wp2_with fail
        go_loopw [16] (fun c wq => ∃ c' : Int, -1 ≤ c' ∧ c' ≤ (n : Int) + 1 ∧ c = .int .i64 c' ∧ PA w base bw qb ba g6 cap6 r m (kd : Nat) ac to an l1 l1 wq) (fun c _ => ((n : Int) + 1 - intOf c).toNat)
        case atStart => exact ⟨-1, by omega, by omega, rfl, H9.out⟩
        case round =>
          obtain ⟨c', hc0, hc1, rfl, hPc⟩ := hrel
          by_cases hcn : c' ≤ (n : Int)
          · have D18 : Hid (∀ w', PA w base bw qb ba g6 cap6 r m (kd : Nat) ac to an l1 l1 w' → Calls Try.prog 18 #[.pointer (some ⟨qb + 1, 0, none⟩), .int .i64 c'] w' fun e w'' => e = .returned (.int .i64 (bytesQ l1 c')) ∧ PA w base bw qb ba g6 cap6 r m (kd : Nat) ac to an l1 l1 w'') := fun w' h => C18.out c' w' (by omega) h
            have D27 : Hid (∀ w', PA w base bw qb ba g6 cap6 r m (kd : Nat) ac to an l1 l1 w' → Calls Try.prog 27 #[rv g6 cap6 n r m, .int .i64 c'] w' fun e w'' => e = .returned (.int .i64 (bytesQ l1 c')) ∧ PA w base bw qb ba g6 cap6 r m (kd : Nat) ac to an l1 l1 w'') := fun w' h => C27.out c' w' h
            have dc : decide (c' ≤ (n : Int)) = true := decide_eq_true hcn
            have hwc : IntKind.i64.wrap (c' + 1) = c' + 1 := IntWalk.i64_in _ (by omega)
            generalize bytesQ l1 c' = by' at *
            have HPc := Lib.hid hPc
            clear hPc
            go_wp2_with fail
            refine wp_region_class (PA w base bw qb ba g6 cap6 r m (kd : Nat) ac to an l1 l1) (by kernel_rfl) (by kernel_rfl) HPc.out.drew ?_
            refine wpQuiet_step (fun K hK => ?_)
            rw [if_pos (by rfl)]
            refine ⟨?_, fun w hSw => ?_, hK _ ?_⟩
            rotate_left
            · clear hSw
              go_simp
              try with_reducible rfl
            clear hK K
            try simp only [Act.put, List.setIfInBounds_toArray, List.set_cons_zero, List.set_cons_succ]
            refine wpQuiet_step (fun K hK => ?_)
            rw [if_pos (by rfl)]
            refine ⟨?_, fun w hSw => ?_, hK _ ?_⟩
            rotate_left
            · clear hSw
              go_simp
              try with_reducible rfl
            clear hK K
            try simp only [Act.put, List.setIfInBounds_toArray, List.set_cons_zero, List.set_cons_succ]
            refine wpQuiet_step (fun K hK => ?_)
            rw [if_pos (by rfl)]
            refine ⟨?_, fun w hSw => ?_, hK _ ?_⟩
            rotate_left
            · go_simp
              go_at_call 18
              with_reducible exact D18.out w hSw
            clear hK K
            try simp only [Act.put, List.setIfInBounds_toArray, List.set_cons_zero, List.set_cons_succ]
            refine wpQuiet_step (fun K hK => ?_)
            rw [if_pos (by rfl)]
            refine ⟨?_, fun w hSw => ?_, hK _ ?_⟩
            rotate_left
            · obtain ⟨p0, p1, p2, p3, p4, p5, p6, p7, p8, p9⟩ := hSw.cells HL1.out
              go_simp
              try with_reducible rfl
            clear hK K
            try simp only [Act.put, List.setIfInBounds_toArray, List.set_cons_zero, List.set_cons_succ]
            refine wpQuiet_step (fun K hK => ?_)
            rw [if_pos (by rfl)]
            refine ⟨?_, fun w hSw => ?_, hK _ ?_⟩
            rotate_left
            · clear hSw
              go_simp
              try with_reducible rfl
            clear hK K
            try simp only [Act.put, List.setIfInBounds_toArray, List.set_cons_zero, List.set_cons_succ]
            refine wpQuiet_step (fun K hK => ?_)
            rw [if_pos (by rfl)]
            refine ⟨?_, fun w hSw => ?_, hK _ ?_⟩
            rotate_left
            · go_simp
              go_at_call 27
              with_reducible exact D27.out w hSw
            clear hK K
            try simp only [Act.put, List.setIfInBounds_toArray, List.set_cons_zero, List.set_cons_succ]
            refine wpQuiet_step (fun K hK => ?_)
            rw [if_pos (by rfl)]
            refine ⟨?_, fun w hSw => ?_, hK _ ?_⟩
            rotate_left
            · clear hSw
              go_simp
              try with_reducible rfl
            clear hK K
            try simp only [Act.put, List.setIfInBounds_toArray, List.set_cons_zero, List.set_cons_succ]
            refine wpQuiet_nil ?_
            intro w9 hHeld
            have HPd := Lib.hid hHeld
            clear hHeld
            go_wp2
            go_roundw
            case rel => exact ⟨c' + 1, by omega, by omega, by go_num, HPd.out⟩
            case measure => simp [intOf]; omega
          · have dc : decide (c' ≤ (n : Int)) = false := decide_eq_false hcn
            have HPc := Lib.hid hPc
            clear hPc
            go_wp2
            go_roundw
            case rel => exact ⟨k + 1, l1, g6, cap6, by omega, by go_num, HPc.out.k, HI1.out, HL1.out⟩
            case measure => simp [intOf]; omega
    · have HP9 := Lib.hid hP.below
      clear hP
      go_wp2
      go_ret
      exact ⟨rfl, HP9.out⟩
theorem walk_plays (n r m : Int) (a : Option Addr) (len cap : Nat) (w : World) (hn : (Lit.int .i64 n).wf = true) (hr : (Lit.int .i64 r).wf = true) (hm : (Lit.int .i64 m).wf = true) (hA : Acts w a len ∧ len ≤ 9223372036854775807) :
    Calls Try.prog 8 #[.int .i64 n, .int .i64 r, .int .i64 m, .slice a len cap] w fun e w' => e = .returned (.bool true) ∧ Below w.heap.size w w' := by
  rcases Nat.lt_or_ge 100 len with h | h
  · exact plays_many n r m a len cap w h hA.2
  · by_cases hc : 1 ≤ n ∧ n ≤ 129 ∧ 0 ≤ r ∧ r ≤ 1073741824 ∧ 0 ≤ m ∧ m ≤ 1073741824
    · obtain ⟨n, rfl⟩ := Int.eq_ofNat_of_zero_le (show 0 ≤ n by omega)
      exact plays_main n r m a len cap w h (by omega) (by omega) (by omega) (by omega) (by omega) (by omega) hA.1
    · exact plays_bad n r m a len cap w h (by omega)
end Go.Proofs.Ytflgpbjhjomogaa.C
