/- The walks of At, Head, Pop, Len, Bytes, Free, New (stores). -/
import Derived.Test.YtgcfiiidhihkaaaStoU
namespace Go.Proofs.Ytgcfiiidhihkaaa.C
open Go.RowKit
set_option linter.unusedVariables false
theorem lenP_cell {x : Array Value} (h : lenP x ≠ 0) : x[45]? = some (.int .i64 (lenP x)) := by
  unfold lenP at h ⊢
  split at h
  · rename_i n hn
    rw [hn]
  · exact absurd rfl h
/-- A class's k-th packet. -/
def atS (L : List (List (Array Value))) (c k : Int) : Option (Array Value) := if 0 ≤ c ∧ 0 ≤ k then (match L[c.toNat]? with | some l => l[k.toNat]? | none => none) else none
theorem atS_some {L : List (List (Array Value))} {c k : Nat} {l : List (Array Value)} (hl : L[c]? = some l) : atS L (c : Nat) (k : Nat) = l[k]? := by
  unfold atS
  rw [if_pos (by omega)]
  simp [hl]
theorem atS_cases (L : List (List (Array Value))) (c k : Int) : (∃ (c' k' : Nat) (l : List (Array Value)) (x : Array Value), c = c' ∧ k = k' ∧ L[c']? = some l ∧ l[k']? = some x ∧ atS L c k = some x) ∨ (atS L c k = none ∧ ∀ (c' k' : Nat) (l : List (Array Value)), c = c' → k = k' → L[c']? = some l → l[k']? = none) := by
  by_cases h : 0 ≤ c ∧ 0 ≤ k
  · obtain ⟨c, rfl⟩ := Int.eq_ofNat_of_zero_le h.1
    obtain ⟨k, rfl⟩ := Int.eq_ofNat_of_zero_le h.2
    cases hl : L[c]? with
    | none =>
      refine .inr ⟨by unfold atS; rw [if_pos h]; simp [hl], ?_⟩
      intro c' k' l e1 e2 hl'
      obtain rfl : c = c' := by omega
      rw [hl] at hl'; cases hl'
    | some l =>
      cases hx : l[k]? with
      | none =>
        refine .inr ⟨by rw [atS_some hl, hx], ?_⟩
        intro c' k' l' e1 e2 hl'
        obtain rfl : c = c' := by omega
        obtain rfl : k = k' := by omega
        rw [hl] at hl'
        injection hl' with hl'
        subst hl'
        exact hx
      | some x => exact .inl ⟨c, k, l, x, rfl, rfl, hl, hx, by rw [atS_some hl, hx]⟩
  · refine .inr ⟨by unfold atS; rw [if_neg h], ?_⟩
    intro c' k' l e1 e2 _
    omega
section
variable {w : World} {a : Adr} {L : List (List (Array Value))} {R : Nat}
/-- Nothing in the lists: nothing in the lines. -/
theorem StAt.none_at {A : List (Option (Array Value))} {fl : List Nat} {Q : List (List Nat)} (h : StAt w a L R A fl Q) {c k : Int} (hn : ∀ (c' k' : Nat) (l : List (Array Value)), c = c' → k = k' → L[c']? = some l → l[k']? = none) :
    ∀ (l k' : Nat) (q : List Nat), c = l → k = k' → Q[l]? = some q → q[k']? = none := by
  intro c' k' q e1 e2 hq
  cases hp : q[k']? with
  | none => rfl
  | some p =>
    obtain ⟨l, x, hl, hx, _⟩ := h.lk.at_ hq hp
    rw [hn c' k' l e1 e2 hl] at hx
    cases hx
set_option maxRecDepth 100000 in
theorem st_at (c k : Int) (h : Sto w a L R) :
    Calls Try.prog 66 #[.pointer (some ⟨a.sb, 0, none⟩), .int .i64 c, .int .i64 k] w fun e w' => e = .returned (.tuple #[.agg ((atS L c k).getD PZ), .bool (atS L c k).isSome]) ∧ Below w.heap.size w w' := by
  obtain ⟨A, fl, Q, h⟩ := h
  have hlen := h.len
  have C := Lib.hid (fun w' (p : Below w.heap.size w w') => has_st a c L.length w' (h.below p).c2 (by omega))
  rcases atS_cases L c k with ⟨c, k, l, x, rfl, rfl, hl, hx, he⟩ | ⟨he, hn⟩
  · rw [he]
    have hc := lt_of_some hl
    have hkl := lt_of_some hx
    obtain ⟨q, hq, hql⟩ := h.lk.line hl
    obtain ⟨p, hp⟩ : ∃ p, q[k]? = some p := ⟨_, List.getElem?_eq_getElem (by omega)⟩
    have hA : A[p]? = some (some x) := by
      obtain ⟨l', x', h1, h2, h3⟩ := h.lk.at_ hq hp
      rw [hl] at h1
      injection h1 with h1
      subst h1
      rw [hx] at h2
      injection h2 with h2
      rw [h2]
      exact h3
    rw [decide_eq_true (show 0 ≤ (c : Int) ∧ (c : Int) < L.length by omega)] at C
    have CA := Lib.hid (fun w' (p' : Below w.heap.size w w') => CH.c_at (h.below p').chain hq hp)
    have CG := Lib.hid (fun w' (p' : Below w.heap.size w w') => PS.s_get_yes (p : Nat) x (h.below p').slab (by rw [getA_nat, hA]; rfl))
    have HPK := Lib.hid (h.slab.pk hA)
    have HH := Lib.hid h
    clear h hl hx he hq hp hA hlen hql hkl
    go_enter Try.func66, Try.ntmps66
    go_upto_region 1 with ((with_reducible refine arm_alloc 6 79 PZ 46 pz_zero ?_); intro w1 HB HX HS)
    have c1 := (HH.out.below HB.out).c1
    go_wp2_with fail
    refine (C.out _ HB.out).mono ?_
    rintro e w2 ⟨rfl, rfl⟩
    go_wp2_with fail
    refine (CA.out _ HB.out).mono ?_
    rintro e w3 ⟨rfl, d, hw3⟩
    have hB3 : Below w.heap.size w w3 := by rw [hw3]; exact below_drewN HB.out d
    have HX3 : Hid (w3.heap[w.heap.size]? = some (.cells PZ 79 (0, 0))) := by rw [hw3]; exact Lib.hid HX.out
    have c0 := (HH.out.below hB3).c0
    have HB3 := Lib.hid hB3
    clear c1 hw3 hB3 HX HB HS
    go_wp2_with fail
    refine (CG.out _ HB3.out).mono ?_
    rintro e w4 ⟨rfl, hB4⟩
    have HX4 := Lib.hid (keep_block hB4 HX3.out)
    have HB4 := Lib.hid (HB3.out.trans (hB4.mono HB3.out.size))
    have hst := pkt_store HX4.out HPK.out
    clear c0 hB4 HX3 HB3
    go_wp2_with ((with_reducible refine arm_store 6 34 79 (.pointer (some ⟨w.heap.size, 0, none⟩)) (.agg x) _ hst ?_ ?_ ?_); rfl; rfl)
    have hbx := box_whole HX4.out (cs := x) HPK.out.size
    refine bodyPost_ret (res_row_tmp rfl _ _ _ _ _ _ _ rfl hbx Try.underlying79 rfl (by rw [pkt_size, HPK.out.size])) rfl ?_
    exact ⟨rfl, below_setCells (Nat.le_refl _) _ _ HB4.out⟩
  · rw [he]
    by_cases hc : 0 ≤ c ∧ c < L.length
    · rw [decide_eq_true hc] at C
      have CA := Lib.hid (fun w' (p' : Below w.heap.size w w') => CH.c_at_no c k (h.below p').chain (h.none_at hn))
      have HH := Lib.hid h
      clear h hn he hlen hc
      go_enter Try.func66, Try.ntmps66
      go_upto_region 1 with ((with_reducible refine arm_alloc 6 79 PZ 46 pz_zero ?_); intro w1 HB HX HS)
      have c1 := (HH.out.below HB.out).c1
      have hst := pkt_store HX.out pk_zero
      go_wp2_with fail
      refine (C.out _ HB.out).mono ?_
      rintro e w2 ⟨rfl, rfl⟩
      go_wp2_with fail
      refine (CA.out _ HB.out).mono ?_
      rintro e w3 ⟨rfl, d, hw3⟩
      have hB3 : Below w.heap.size w w3 := by rw [hw3]; exact below_drewN HB.out d
      have HX3 : Hid (w3.heap[w.heap.size]? = some (.cells PZ 79 (0, 0))) := by rw [hw3]; exact Lib.hid HX.out
      have hst := pkt_store HX3.out pk_zero
      have HB3 := Lib.hid hB3
      have hbl := build_zero w3
      clear c1 hw3 hB3 HX HB HS
      go_wp2_with (first
        | ((with_reducible refine arm_build 27 79 #[] #[] (.agg PZ) hbl ?_ ?_); rfl)
        | ((with_reducible refine arm_store 6 27 79 (.pointer (some ⟨w.heap.size, 0, none⟩)) (.agg PZ) _ hst ?_ ?_ ?_); rfl; rfl))
      have hbx := box_whole HX3.out (cs := PZ) rfl
      refine bodyPost_ret (res_row_tmp rfl _ _ _ _ _ _ _ rfl hbx Try.underlying79 rfl pkt_size) rfl ?_
      exact ⟨rfl, below_setCells (Nat.le_refl _) _ _ HB3.out⟩
    · rw [decide_eq_false hc] at C
      clear h hn he hlen hc
      go_enter Try.func66, Try.ntmps66
      go_upto_region 1 with ((with_reducible refine arm_alloc 6 79 PZ 46 pz_zero ?_); intro w1 HB HX HS)
      have hst := pkt_store HX.out pk_zero
      go_wp2_with fail
      refine (C.out _ HB.out).mono ?_
      rintro e w2 ⟨rfl, rfl⟩
      have hbl := build_zero w2
      go_wp2_with (first
        | ((with_reducible refine arm_build 14 79 #[] #[] (.agg PZ) hbl ?_ ?_); rfl)
        | ((with_reducible refine arm_store 6 14 79 (.pointer (some ⟨w.heap.size, 0, none⟩)) (.agg PZ) _ hst ?_ ?_ ?_); rfl; rfl))
      have hbx := box_whole HX.out (cs := PZ) rfl
      refine bodyPost_ret (res_row_tmp rfl _ _ _ _ _ _ _ rfl hbx Try.underlying79 rfl pkt_size) rfl ?_
      exact ⟨rfl, below_setCells (Nat.le_refl _) _ _ HB.out⟩
/-- How long a class's first packet is. -/
def headS (L : List (List (Array Value))) (c : Int) : Int := match atS L c 0 with | some x => lenP x | none => 0
set_option maxRecDepth 100000 in
theorem st_head (c : Int) (h : Sto w a L R) :
    Calls Try.prog 48 #[.pointer (some ⟨a.sb, 0, none⟩), .int .i64 c] w fun e w' => e = .returned (.int .i64 (headS L c)) ∧ Below w.heap.size w w' := by
  have CA := Lib.hid (st_at c 0 h)
  have hx : Pk ((atS L c 0).getD PZ) ∧ ((atS L c 0).getD PZ)[45]? = some (.int .i64 (headS L c)) := by
    unfold headS
    rcases atS_cases L c 0 with ⟨c, k, l, x, rfl, h0, hl, hx, he⟩ | ⟨he, hn⟩
    · rw [he]
      obtain ⟨A, fl, Q, h⟩ := h
      obtain ⟨q, hq, hql⟩ := h.lk.line hl
      have hkl := lt_of_some hx
      obtain ⟨p, hp⟩ : ∃ p, q[k]? = some p := ⟨_, List.getElem?_eq_getElem (by omega)⟩
      obtain ⟨l', x', h1, h2, h3⟩ := h.lk.at_ hq hp
      rw [hl] at h1
      injection h1 with h1
      subst h1
      rw [hx] at h2
      injection h2 with h2
      subst h2
      have := h.lk.ok l (List.mem_of_getElem? hl) x (List.mem_of_getElem? hx)
      exact ⟨h.slab.pk h3, lenP_cell (x := x) (by omega)⟩
    · rw [he]
      exact ⟨pk_zero, by rfl⟩
  clear h
  generalize (atS L c 0).getD PZ = x at *
  generalize (atS L c 0).isSome = o at *
  generalize headS L c = n at *
  obtain ⟨hpk, hn⟩ := hx
  have HPK := Lib.hid hpk
  have HN := Lib.hid hn
  clear hpk hn
  go_enter Try.func48, Try.ntmps48
  go_wp2_with fail
  refine CA.out.mono ?_
  rintro e w1 ⟨rfl, hB1⟩
  have HB1 := Lib.hid hB1
  clear hB1
  go_upto_region 2 with (first
    | ((with_reducible refine arm_alloc 5 79 PZ 46 pz_zero ?_); intro w2 HB HX HS; have hst := pkt_store HX.out HPK.out)
    | ((with_reducible refine arm_store 5 11 79 (.pointer (some ⟨w1.heap.size, 0, none⟩)) (.agg x) _ hst ?_ ?_ ?_); rfl; rfl))
  have hbx := box_whole HX.out (cs := x) HPK.out.size
  have hcell : (w2.setCells w1.heap.size 0 x.toList).cell? ⟨w1.heap.size, 45, none⟩ = some (.int .i64 n) := by rw [cell_of_row _ _ _ _ _ _ hbx]; exact HN.out
  have HB3 := Lib.hid (HB1.out.trans ((below_setCells (b := w1.heap.size) (Nat.le_refl _) x.toList 0 HB.out).mono HB1.out.size))
  clear hst hbx
  generalize w2.setCells w1.heap.size 0 x.toList = w3 at *
  go_wp2
  go_ret
  exact ⟨rfl, HB3.out⟩
theorem st_len (c : Nat) (l : List (Array Value)) (h : Sto w a L R) (hl : L[c]? = some l) :
    Calls Try.prog 47 #[.pointer (some ⟨a.sb, 0, none⟩), .int .i64 (c : Nat)] w fun e w' => e = .returned (.int .i64 (l.length : Nat)) ∧ w' = w := by
  obtain ⟨A, fl, Q, h⟩ := h
  have hlen := h.len
  have hc := lt_of_some hl
  have C := Lib.hid (has_st a (c : Nat) L.length w h.c2 (by omega))
  rw [decide_eq_true (show 0 ≤ (c : Int) ∧ (c : Int) < L.length by omega)] at C
  obtain ⟨q, hq, hql⟩ := h.lk.line hl
  have CL := Lib.hid (CH.c_len h.chain hq)
  rw [hql] at CL
  have c1 := h.c1
  generalize l.length = n at *
  clear h hl hlen hc hql hq
  go_enter Try.func47, Try.ntmps47
  go_wp2_with fail
  refine C.out.mono ?_
  rintro e w1 ⟨rfl, rfl⟩
  go_wp2_with fail
  refine CL.out.mono ?_
  rintro e w1 ⟨rfl, rfl⟩
  go_wp2
  go_ret
  exact ⟨rfl, rfl⟩
theorem st_len_no (c : Int) (h : Sto w a L R) (hc : ¬ (0 ≤ c ∧ c < L.length)) :
    Calls Try.prog 47 #[.pointer (some ⟨a.sb, 0, none⟩), .int .i64 c] w fun e w' => e = .returned (.int .i64 0) ∧ w' = w := by
  obtain ⟨A, fl, Q, h⟩ := h
  have hlen := h.len
  have C := Lib.hid (has_st a c L.length w h.c2 (by omega))
  rw [decide_eq_false hc] at C
  clear h hlen hc
  go_enter Try.func47, Try.ntmps47
  go_wp2_with fail
  refine C.out.mono ?_
  rintro e w1 ⟨rfl, rfl⟩
  go_wp2
  go_ret
  exact ⟨rfl, rfl⟩
theorem st_bytes (c : Nat) (l : List (Array Value)) (h : Sto w a L R) (hl : L[c]? = some l) :
    Calls Try.prog 46 #[.pointer (some ⟨a.sb, 0, none⟩), .int .i64 (c : Nat)] w fun e w' => e = .returned (.int .i64 (sumL l)) ∧ w' = w := by
  obtain ⟨A, fl, Q, h⟩ := h
  have hlen := h.len
  have hc := lt_of_some hl
  have C := Lib.hid (has_st a (c : Nat) L.length w h.c2 (by omega))
  rw [decide_eq_true (show 0 ≤ (c : Int) ∧ (c : Int) < L.length by omega)] at C
  have c2 := h.c2
  have hb := h.byte hl
  generalize sumL l = n at *
  clear h hl
  have hcn : (c : Int) < (L.length : Int) := by omega
  go_enter Try.func46, Try.ntmps46
  go_wp2_with fail
  refine C.out.mono ?_
  rintro e w1 ⟨rfl, rfl⟩
  go_wp2
  go_ret
  exact ⟨rfl, rfl⟩
theorem st_bytes_no (c : Int) (h : Sto w a L R) (hc : ¬ (0 ≤ c ∧ c < L.length)) :
    Calls Try.prog 46 #[.pointer (some ⟨a.sb, 0, none⟩), .int .i64 c] w fun e w' => e = .returned (.int .i64 0) ∧ w' = w := by
  obtain ⟨A, fl, Q, h⟩ := h
  have hlen := h.len
  have C := Lib.hid (has_st a c L.length w h.c2 (by omega))
  rw [decide_eq_false hc] at C
  clear h hlen hc
  go_enter Try.func46, Try.ntmps46
  go_wp2_with fail
  refine C.out.mono ?_
  rintro e w1 ⟨rfl, rfl⟩
  go_wp2
  go_ret
  exact ⟨rfl, rfl⟩
theorem st_free (h : Sto w a L R) :
    Calls Try.prog 45 #[.pointer (some ⟨a.sb, 0, none⟩)] w fun e w' => e = .returned (.int .i64 (R - total L : Nat)) ∧ w' = w := by
  obtain ⟨A, fl, Q, h⟩ := h
  have hcnt := h.lk.cnt
  have C := Lib.hid (PS.s_free h.slab)
  rw [show fl.length = R - total L by omega] at C
  have c0 := h.c0
  generalize R - total L = n at *
  clear h hcnt
  go_enter Try.func45, Try.ntmps45
  go_wp2_with fail
  refine C.out.mono ?_
  rintro e w1 ⟨rfl, rfl⟩
  go_wp2
  go_ret
  exact ⟨rfl, rfl⟩
end
theorem st_free_nil (w : World) : Calls Try.prog 45 #[.pointer none] w fun e w' => e = .returned (.int .i64 0) ∧ w' = w := by
  go_enter Try.func45, Try.ntmps45
  go_wp2
  go_ret
  exact ⟨rfl, rfl⟩
end Go.Proofs.Ytgcfiiidhihkaaa.C
