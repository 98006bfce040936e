/- The reference's store: the walks of Waits, Bytes, At, with. -/
import Derived.Test.YtgcfiiidhihkaaaRefR
namespace Go.Proofs.Ytgcfiiidhihkaaa.C
open Go.RowKit
set_option linter.unusedVariables false
theorem ref_facts {w : World} {b : Nat} {u0 u1 : Value} {t : TypeId} (h : w.heap[b]? = some (.cells #[u0, u1] t (0, 0))) :
    w.cell? ⟨b, 0, none⟩ = some u0 ∧ w.cell? ⟨b, 1, none⟩ = some u1 ∧ w.frozen? ⟨b, 0, none⟩ = false ∧ w.frozen? ⟨b, 1, none⟩ = false :=
  ⟨by rw [cell_of_row _ _ _ _ _ _ h]; rfl, by rw [cell_of_row _ _ _ _ _ _ h]; rfl, frozen_of_row _ _ _ _ _ h, frozen_of_row _ _ _ _ _ h⟩
section
variable {w : World} {base g cap m : Nat} {S : List Value} {L : List (List (Array Value))}
theorem total_take {α : Type} (L : List (List α)) {k : Nat} {l : List α} (hl : L[k]? = some l) : total (L.take (k + 1)) = total (L.take k) + l.length := by
  have hk := lt_of_some hl
  rw [List.take_succ_eq_append_getElem hk]
  rw [List.getElem?_eq_getElem hk] at hl
  injection hl with hl
  simp [total, hl]
theorem total_take_le {α : Type} (L : List (List α)) (k : Nat) : total (L.take k) ≤ total L := by
  have h := congrArg List.sum (List.take_append_drop k (L.map List.length))
  rw [List.sum_append] at h
  unfold total
  rw [List.map_take]
  omega
set_option maxRecDepth 100000 in
theorem rs_waits (h : RS w base g cap S L) (hL : L.length ≤ 129) (hT : total L ≤ 4096) :
    Calls Try.prog 54 #[rv g cap L.length m] w fun e w' => e = .returned (.int .i64 (total L : Nat)) ∧ Below w.heap.size w w' := by
  have hB : Below w.heap.size w (w.alloc (.cells #[.slice (some ⟨g, 0, none⟩) L.length cap, .int .i64 (m : Nat)] 89)) := (Below.refl _ _).alloc (Nat.le_refl _) _
  have HR := Lib.hid (h.below hB)
  have c0 := ref_box g cap L.length m w
  have HB := Lib.hid hB
  clear h hB
  generalize hn : L.length = n at *
  have HN := Lib.hid hn
  have HT := Lib.hid (fun k => total_take_le L k)
  clear hn
  go_enter Try.func54, Try.ntmps54
  go_upto_region 1 with (fail)
  generalize hwA : w.alloc (.cells #[.slice (some ⟨g, 0, none⟩) n cap, .int .i64 (m : Nat)] 89) = wA at *
  clear hwA
  go_wp2_with fail
  go_loopw [3, 8] (fun s c wr => ∃ k : Nat, k ≤ n ∧ c = .int .i64 k ∧ s = .int .i64 (total (L.take k) : Nat) ∧ wA = wr) (fun _ c _ => n - (intOf c).toNat)
  case atStart => exact ⟨0, by omega, rfl, rfl, rfl⟩
  case round =>
    obtain ⟨k, hk, rfl, rfl, rfl⟩ := hrel
    by_cases hlt : k < n
    · obtain ⟨l, hl⟩ : ∃ l, L[k]? = some l := ⟨_, List.getElem?_eq_getElem (by have := HN.out; omega)⟩
      have HS := Lib.hid (total_take L hl)
      have hb1 := HT.out (k + 1)
      rw [HS.out] at hb1
      obtain ⟨A, cp, h1, _⟩ := HR.out.line hl
      have hkI : (k : Int) < (n : Int) := by omega
      generalize total (L.take k) = t at *
      generalize l.length = ll at *
      clear hl
      go_wp2_with fail
      go_roundw
      case rel => exact ⟨k + 1, by omega, by go_num, by rw [HS.out]; go_num, by first | rfl | trivial⟩
      case measure => simp [intOf]; omega
    · obtain rfl : k = n := by omega
      have e : L.take k = L := List.take_of_length_le (by have := HN.out; omega)
      rw [e]
      clear e
      go_wp2_with fail
      go_ret
      exact ⟨rfl, HB.out⟩
theorem sumL_take (l : List (Array Value)) {k : Nat} {x : Array Value} (hx : l[k]? = some x) : sumL (l.take (k + 1)) = sumL (l.take k) + lenP x := by
  have hk := lt_of_some hx
  rw [List.take_succ_eq_append_getElem hk, sumL_append]
  rw [List.getElem?_eq_getElem hk] at hx
  injection hx with hx
  rw [hx]
set_option maxRecDepth 100000 in
theorem rs_bytes (c : Int) (h : RS w base g cap S L) (hL : L.length ≤ 129) (hq : ∀ l ∈ L, l.length ≤ 4096) :
    Calls Try.prog 71 #[rv g cap L.length m, .int .i64 c] w fun e w' => e = .returned (.int .i64 (sumL (clsS L c))) ∧ Below w.heap.size w w' := by
  have hB : Below w.heap.size w (w.alloc (.cells #[.slice (some ⟨g, 0, none⟩) L.length cap, .int .i64 (m : Nat)] 89)) := (Below.refl _ _).alloc (Nat.le_refl _) _
  have C := Lib.hid (rs_class (m := m) c (h.below hB) hL)
  have c0 := ref_box g cap L.length m w
  have c1 : (w.alloc (.cells #[.slice (some ⟨g, 0, none⟩) L.length cap, .int .i64 (m : Nat)] 89)).cell? ⟨w.heap.size, 1, none⟩ = some (.int .i64 (m : Nat)) := by rw [cell_of_row _ _ _ _ _ _ (Go.heap_alloc_new w _)]; rfl
  have hpf : ∀ x ∈ clsS L c, PF x := by
    intro x hx
    by_cases hc : 0 ≤ c ∧ c < L.length
    · obtain ⟨c, rfl⟩ := Int.eq_ofNat_of_zero_le hc.1
      obtain ⟨l, hl⟩ : ∃ l, L[c]? = some l := ⟨_, List.getElem?_eq_getElem (by omega)⟩
      rw [clsS_some hl] at hx
      exact h.pf l (List.mem_of_getElem? hl) x hx
    · rw [clsS_out hc] at hx
      cases hx
  have hlen : (clsS L c).length ≤ 4096 := by
    by_cases hc : 0 ≤ c ∧ c < L.length
    · obtain ⟨c, rfl⟩ := Int.eq_ofNat_of_zero_le hc.1
      obtain ⟨l, hl⟩ : ∃ l, L[c]? = some l := ⟨_, List.getElem?_eq_getElem (by omega)⟩
      rw [clsS_some hl]
      exact hq l (List.mem_of_getElem? hl)
    · rw [clsS_out hc]
      simp
  have HB := Lib.hid hB
  have HPF := Lib.hid hpf
  clear h hB hpf hq
  generalize clsS L c = l at *
  generalize L.length = n at *
  generalize hll : l.length = ll at *
  have HLL := Lib.hid hll
  clear hll
  go_enter Try.func71, Try.ntmps71
  go_upto_region 2 with (fail)
  generalize hwA : w.alloc (.cells #[.slice (some ⟨g, 0, none⟩) n cap, .int .i64 (m : Nat)] 89) = wA at *
  clear hwA
  go_wp2_with fail
  refine C.out.mono ?_
  rintro e w1 ⟨A, cp, rfl, hrow, hB1⟩
  have HROW := Lib.hid hrow
  have HB1 := Lib.hid (HB.out.trans (hB1.mono HB.out.size))
  clear C hrow hB1 c0 c1
  go_wp2_with fail
  go_loopw [5, 13] (fun s t wr => ∃ k : Nat, k ≤ ll ∧ t = .int .i64 k ∧ s = .int .i64 (sumL (l.take k)) ∧ w1 = wr) (fun _ t _ => ll - (intOf t).toNat)
  case atStart => exact ⟨0, by omega, rfl, rfl, rfl⟩
  case round =>
    obtain ⟨k, hk, rfl, rfl, rfl⟩ := hrel
    by_cases hlt : k < ll
    · obtain ⟨x, hx⟩ : ∃ x, l[k]? = some x := ⟨_, List.getElem?_eq_getElem (by have := HLL.out; omega)⟩
      have HS := Lib.hid (sumL_take l hx)
      have hpx := HPF.out x (List.mem_of_getElem? hx)
      have hb := sumL_bound (l.take k) fun y hy => (HPF.out y (List.mem_of_mem_take hy)).rng
      have hb2 : (l.take k).length ≤ 4096 := by rw [List.length_take]; have := HLL.out; omega
      have hrow := HROW.out
      rw [← HLL.out] at hrow
      obtain ⟨gg, rfl, hld⟩ := row_pkt hrow HPF.out hx
      have hcl := laid_len hld hpx.len
      have hrng := hpx.rng
      generalize lenP x = nx at *
      generalize sumL (l.take k) = s at *
      obtain ⟨hb0, hb1⟩ := hb
      obtain ⟨r0, r1⟩ := hrng
      have hs : s ≤ 37748736 := by omega
      have hkI : (k : Int) < (ll : Int) := by omega
      clear hrow hpx hld hx hb1 hb2
      go_wp2_with fail
      go_roundw
      case rel => exact ⟨k + 1, by omega, by go_num, by rw [HS.out], by first | rfl | trivial⟩
      case measure => simp [intOf]; omega
    · obtain rfl : k = ll := by omega
      have e : l.take k = l := List.take_of_length_le (by have := HLL.out; omega)
      rw [e]
      clear e
      go_wp2_with fail
      go_ret
      exact ⟨rfl, HB1.out⟩
set_option maxRecDepth 100000 in
theorem rs_at (c k : Int) (h : RS w base g cap S L) (hL : L.length ≤ 129) (hk : k ≤ 4611686018427387904) (hq : ∀ l ∈ L, l.length ≤ 4096) :
    Calls Try.prog 52 #[rv g cap L.length m, .int .i64 c, .int .i64 k] w fun e w' => e = .returned (.tuple #[.agg ((atS L c k).getD PZ), .bool (atS L c k).isSome]) ∧ Below w.heap.size w w' := by
  have CL := Lib.hid (fun w' (p : Below w.heap.size w w') => rs_class (m := m) c (h.below p) hL)
  have hat : atS L c k = if 0 ≤ k then (clsS L c)[k.toNat]? else none := by
    rcases atS_cases L c k with ⟨c, k, l, x, rfl, rfl, hl, hx, he⟩ | ⟨he, hn⟩
    · rw [he, clsS_some hl, if_pos (by omega), Int.toNat_natCast, hx]
    · rw [he]
      by_cases h0 : 0 ≤ k
      · obtain ⟨k, rfl⟩ := Int.eq_ofNat_of_zero_le h0
        rw [if_pos h0]
        by_cases hc : 0 ≤ c ∧ c < L.length
        · obtain ⟨c, rfl⟩ := Int.eq_ofNat_of_zero_le hc.1
          obtain ⟨l, hl⟩ : ∃ l, L[c]? = some l := ⟨_, List.getElem?_eq_getElem (by omega)⟩
          rw [clsS_some hl, Int.toNat_natCast, hn c k l rfl rfl hl]
        · rw [clsS_out hc]
          simp
      · rw [if_neg h0]
  have hpf : ∀ x ∈ clsS L c, PF x := by
    intro x hx
    by_cases hc : 0 ≤ c ∧ c < L.length
    · obtain ⟨c, rfl⟩ := Int.eq_ofNat_of_zero_le hc.1
      obtain ⟨l, hl⟩ : ∃ l, L[c]? = some l := ⟨_, List.getElem?_eq_getElem (by omega)⟩
      rw [clsS_some hl] at hx
      exact h.pf l (List.mem_of_getElem? hl) x hx
    · rw [clsS_out hc] at hx
      cases hx
  have hlen : (clsS L c).length ≤ 4096 := by
    by_cases hc : 0 ≤ c ∧ c < L.length
    · obtain ⟨c, rfl⟩ := Int.eq_ofNat_of_zero_le hc.1
      obtain ⟨l, hl⟩ : ∃ l, L[c]? = some l := ⟨_, List.getElem?_eq_getElem (by omega)⟩
      rw [clsS_some hl]
      exact hq l (List.mem_of_getElem? hl)
    · rw [clsS_out hc]
      simp
  rw [hat]
  have HPF := Lib.hid hpf
  clear h hpf hq hat
  generalize clsS L c = l at *
  generalize L.length = n at *
  generalize hll : l.length = ll at *
  have HLL := Lib.hid hll
  clear hll
  have key : ∀ (e : Option (Array Value)), (e = none ∧ (k < 0 ∨ (0 ≤ k ∧ (ll : Int) ≤ k))) ∨ (∃ x, e = some x ∧ 0 ≤ k ∧ l[k.toNat]? = some x) → Calls Try.prog 52 #[rv g cap n m, .int .i64 c, .int .i64 k] w fun e' w' => e' = .returned (.tuple #[.agg (e.getD PZ), .bool e.isSome]) ∧ Below w.heap.size w w' := by
    rintro e (⟨rfl, hc⟩ | ⟨x, rfl, h0, hx⟩)
    · rcases hc with hc | ⟨hc0, hc⟩
      all_goals
        go_enter Try.func52, Try.ntmps52
        go_upto_region 1 with (first
          | ((with_reducible refine arm_box 3 0 89 #[.slice (some ⟨g, 0, none⟩) n cap, .int .i64 (m : Nat)] ?_ ?_); rfl; intro w0 HB0 HX0 HS0)
          | ((with_reducible refine arm_alloc 6 79 PZ 46 pz_zero ?_); intro w1 HB HX HS))
        have hB1 := HB0.out.trans (HB.out.mono HB0.out.size)
        have hx0 := keep_block HB.out HX0.out
        obtain ⟨c0, c1, _, _⟩ := ref_facts hx0
        have HB1 := Lib.hid hB1
        have HLT := Lib.hid HB0.out.size
        clear hB1 hx0 HB0 HX0 HS0 HB HS
        go_wp2_with fail
        refine (CL.out _ HB1.out).mono ?_
        rintro e' w2 ⟨A, cp, rfl, hrow, hB2⟩
        have HX2 := Lib.hid (keep_block hB2 HX.out)
        have HB2 := Lib.hid (HB1.out.trans (hB2.mono HB1.out.size))
        have hst := pkt_store HX2.out pk_zero
        have hbl := build_zero w2
        clear c0 c1 hrow hB2 HX HB1 CL
        go_wp2_with (first
          | ((with_reducible refine arm_build 20 79 #[] #[] (.agg PZ) hbl ?_ ?_); rfl)
          | ((with_reducible refine arm_store 6 20 79 (.pointer (some ⟨w0.heap.size, 0, none⟩)) (.agg PZ) _ hst ?_ ?_ ?_); rfl; rfl))
        have hbx := box_whole HX2.out (cs := PZ) rfl
        refine bodyPost_ret (res_row_tmp rfl _ _ _ _ _ _ _ rfl hbx Try.underlying79 rfl pkt_size) rfl ?_
        exact ⟨rfl, below_setCells HLT.out _ _ HB2.out⟩
    · obtain ⟨k, rfl⟩ := Int.eq_ofNat_of_zero_le h0
      rw [Int.toNat_natCast] at hx
      have hkl := lt_of_some hx
      have hkl' : k < ll := by have := HLL.out; omega
      have hpx := HPF.out x (List.mem_of_getElem? hx)
      have HPX := Lib.hid hpx.pk
      have HXX := Lib.hid hx
      have d0 : decide ((ll : Int) ≤ (k : Int)) = false := decide_eq_false (by omega)
      have d1 : decide (ll ≤ k) = false := decide_eq_false (by omega)
      have hkI : (k : Int) < (ll : Int) := by omega
      clear hx hpx hkl h0
      go_enter Try.func52, Try.ntmps52
      go_upto_region 1 with (first
        | ((with_reducible refine arm_box 3 0 89 #[.slice (some ⟨g, 0, none⟩) n cap, .int .i64 (m : Nat)] ?_ ?_); rfl; intro w0 HB0 HX0 HS0)
        | ((with_reducible refine arm_alloc 6 79 PZ 46 pz_zero ?_); intro w1 HB HX HS))
      have hB1 := HB0.out.trans (HB.out.mono HB0.out.size)
      have hx0 := keep_block HB.out HX0.out
      obtain ⟨c0, c1, _, _⟩ := ref_facts hx0
      have HB1 := Lib.hid hB1
      have HLT := Lib.hid HB0.out.size
      clear hB1 hx0 HB0 HX0 HS0 HB HS
      go_wp2_with fail
      refine (CL.out _ HB1.out).mono ?_
      rintro e' w2 ⟨A, cp, rfl, hrow, hB2⟩
      rw [← HLL.out] at hrow
      obtain ⟨gg, rfl, hld⟩ := row_pkt hrow HPF.out HXX.out
      have HX2 := Lib.hid (keep_block hB2 HX.out)
      have HB2 := Lib.hid (HB1.out.trans (hB2.mono HB1.out.size))
      have hst := pkt_store HX2.out HPX.out
      have hrl := laid_pkt hld HPX.out.size
      clear c0 c1 hrow hB2 HX HB1 CL hld
      go_wp2_with (first
        | ((with_reducible refine arm_load 24 23 79 (.pointer (some ⟨gg, k * 46, none⟩)) (.agg x) hrl ?_ ?_); rfl)
        | ((with_reducible refine arm_store 6 24 79 (.pointer (some ⟨w0.heap.size, 0, none⟩)) (.agg x) _ hst ?_ ?_ ?_); rfl; rfl))
      have hbx := box_whole HX2.out (cs := x) HPX.out.size
      refine bodyPost_ret (res_row_tmp rfl _ _ _ _ _ _ _ rfl hbx Try.underlying79 rfl (by rw [pkt_size, HPX.out.size])) rfl ?_
      exact ⟨rfl, below_setCells HLT.out _ _ HB2.out⟩
  by_cases h0 : 0 ≤ k
  · rw [if_pos h0]
    cases hx : l[k.toNat]? with
    | none =>
      have : ll ≤ k.toNat := by rw [← HLL.out]; exact List.getElem?_eq_none_iff.1 hx
      exact key none (.inl ⟨rfl, .inr ⟨h0, by omega⟩⟩)
    | some x => exact key (some x) (.inr ⟨x, rfl, h0, hx⟩)
  · rw [if_neg h0]
    exact key none (.inl ⟨rfl, .inl (by omega)⟩)
/-- The outer row's c-th is stored. -/
theorem RS.stored (h : RS w base g cap S L) {c : Nat} {v : Value} {l : List (Array Value)} (hv : w.ownsRow base 79 46 v l.length (cellsL l)) (hp : ∀ x ∈ l, PF x) (hc : c < L.length) : RS (w.setCell ⟨g, c, none⟩ v) base g cap (S.set c v) (L.set c l) := by
  refine ⟨?_, fun c' l' hl' => ?_, fun l' hl' => ?_⟩
  · rw [List.length_set]
    exact (h.outer.stored c v).1
  · rcases get_set hl' with ⟨rfl, rfl⟩ | ⟨hne, hl'⟩
    · exact ⟨v, List.getElem?_set_self (by rw [h.len]; exact hc), OW.setCell hv (OW.ne_row hv h.outer rfl (by decide)) v⟩
    · obtain ⟨v', h1, h2⟩ := h.inner c' l' hl'
      exact ⟨v', by rw [List.getElem?_set_ne (fun e => hne e.symm)]; exact h1, OW.setCell h2 (OW.ne_row h2 h.outer rfl (by decide)) v⟩
  · rcases List.mem_or_eq_of_mem_set hl' with hl' | rfl
    · exact h.pf l' hl'
    · exact hp
/-- A cell of a box is stored, not of a row. -/
theorem RS.box {b j : Nat} {C : Array Value} (h : RS w base g cap S L) (hb : w.heap[b]? = some (.cells C 89 (0, 0))) (u : Value) : RS (w.setCell ⟨b, j, none⟩ u) base g cap S L :=
  ⟨OW.setCell h.outer (OW.ne_block h.outer hb (by decide)) u, fun c l hl => by
    obtain ⟨v, h1, h2⟩ := h.inner c l hl
    exact ⟨v, h1, OW.setCell h2 (OW.ne_block h2 hb (by decide)) u⟩, h.pf⟩
theorem rrow_info : (Try.prog.info? 83).map (fun i => (i.zero, i.size, i.bytes)) = some (some (.slice none 0 0), 1, 24) := by kernel_rfl
set_option maxRecDepth 100000 in
theorem rs_with (c : Nat) (l : List (Array Value)) (x : Value) (h : RS w base g cap S L) (hx : w.ownsRow base 79 46 x l.length (cellsL l)) (hp : ∀ y ∈ l, PF y) (hc : c < L.length) (hL : L.length ≤ 129) :
    Calls Try.prog 67 #[rv g cap L.length m, .int .i64 (c : Nat), x] w fun e w' => ∃ g' cap', e = .returned (rv g' cap' L.length m) ∧ RS w' base g' cap' (S.set c x) (L.set c l) ∧ Below w.heap.size w w' := by
  obtain ⟨i0, hi, hz0, hz1, hz2⟩ := info_parts rrow_info
  have Hi := Lib.hid hi
  have Hz0 := Lib.hid hz0
  have Hz1 := Lib.hid hz1
  have Hz2 := Lib.hid hz2
  have hlt := h.lt
  have HH := Lib.hid h
  have HXX := Lib.hid hx
  have HPP := Lib.hid hp
  have HLEN := Lib.hid h.len
  have HS1 : Hid (∀ u ∈ S, u.oneCell' = true) := by
    have : ∀ u ∈ S, u.oneCell' = true := by
      intro u hu
      obtain ⟨j, hj⟩ := List.getElem?_of_mem hu
      have hjl : j < L.length := by have := (List.getElem?_eq_some_iff.1 hj).1; have := h.len; omega
      obtain ⟨v, h1, h2⟩ := h.inner j _ (List.getElem?_eq_getElem hjl)
      rw [hj] at h1
      injection h1 with h1
      obtain ⟨A, c, hv⟩ := OW.slice h2
      rw [h1, hv]
      rfl
    exact Lib.hid this
  clear hi hz0 hz1 hz2 h hx hp
  generalize hn : L.length = n at *
  have HNN := Lib.hid hn
  clear hn
  go_enter Try.func67, Try.ntmps67
  go_upto_region 1 with (first
    | ((with_reducible refine arm_box 3 0 89 #[.slice (some ⟨g, 0, none⟩) n cap, .int .i64 (m : Nat)] ?_ ?_); rfl; intro w0 HB0 HX0 HSS0)
    | ((with_reducible refine arm_alloc 6 89 #[.slice none 0 0, .int .i64 0] 2 (by kernel_rfl) ?_); intro w1 HB1 HX1 HSS1))
  have hB1 := HB0.out.trans (HB1.out.mono HB0.out.size)
  have hX0 := keep_block HB1.out HX0.out
  obtain ⟨c0, c1, _, _⟩ := ref_facts hX0
  have hs0 := HB0.out.size
  have hs1 := HB1.out.size
  have hlt1 := (Array.getElem?_eq_some_iff.1 HX1.out).1
  have hlt0 := (Array.getElem?_eq_some_iff.1 HX0.out).1
  have HX0' := Lib.hid hX0
  have hR1 := HH.out.below hB1
  have HR1 := Lib.hid hR1
  have HB := Lib.hid hB1
  have hB2 : Below w1.heap.size w1 (w1.alloc (.cells #[] 83)) := (Below.refl _ _).alloc (Nat.le_refl _) _
  have HE : Hid ((w1.alloc (.cells #[] 83)).ownsRow base 83 1 (.slice (some ⟨w1.heap.size, 0, none⟩) 0 0) 0 []) := OW.empty (Go.heap_alloc_new w1 _) (by omega)
  have HR2 := Lib.hid (hR1.below hB2)
  obtain ⟨c0', c1', _, _⟩ := ref_facts (keep_block hB2 hX0)
  clear hB1 hX0 HB0 HX0 HSS0 HB1 HSS1 hR1
  go_wp2_with (at_builtin; go_must (refine wpList_append_lies _ rfl (.tmp 8) (.tmp 10) 87 rfl base 83 i0 (.slice none 0 0) 1 24 Try.underlying87 Hi.out Hz0.out Hz1.out Hz2.out rfl (by omega) (.slice (some ⟨w1.heap.size, 0, none⟩) 0 0) 0 [] rfl HE.out ⟨g, 0, none⟩ n cap S rfl ?_ ?_ HS1.out ?_ ?_ ?_ ?_ (w1.heap.size + 1) (by simp) ?_))
  · have := HLEN.out; omega
  · intro j u hu
    rw [OW.addr_off, Nat.zero_add]
    exact HR2.out.cell hu
  · omega
  · simp only [maxLen]; omega
  · omega
  · simp; omega
  · intro g' cap' w3 hown hg hat hlt3
    have hg3 : w1.heap.size ≤ g' := by
      rcases hat with h | h
      · simp [Value.ownBlock] at h; omega
      · omega
    have hkeep : ∀ (q : Nat) (o : Obj), q < w1.heap.size → w1.heap[q]? = some o → w3.heap[q]? = some o := fun q o hq ho => by
      rw [hg.block q (by simp; omega) (by simp [Value.ownBlock]; omega), Go.heap_alloc_old _ _ hq, ho]
    have hB3 : Below w.heap.size w w3 := ⟨hg.os.trans HB.out.os, hg.tape.trans HB.out.tape, hg.output.trans HB.out.output, by have := hg.size; have := HB.out.size; simp at *; omega, fun q hq => by
      rw [hg.block q (by have := HB.out.size; simp; omega) (by have := HB.out.size; simp [Value.ownBlock]; omega), Go.heap_alloc_old _ _ (by have := HB.out.size; omega)]
      exact HB.out.block q hq⟩
    have hR3 : RS w3 base g' cap' S L := ⟨by rw [HNN.out]; exact hown, fun c' l' hl' => by
      obtain ⟨v, h1, h2⟩ := HH.out.inner c' l' hl'
      exact ⟨v, h1, OW.below h2 hB3⟩, HH.out.pf⟩
    have hst := hR3.stored (OW.below HXX.out hB3) HPP.out (by rw [HNN.out]; exact hc)
    obtain ⟨y, hy⟩ : ∃ y, S[c]? = some y := ⟨_, List.getElem?_eq_getElem (by have := HLEN.out; omega)⟩
    have hcell : w3.cell? ⟨g', c, none⟩ = some y := hR3.cell hy
    have hfz := hown.frozenAt c
    have b1 := hkeep _ _ (by omega) HX0'.out
    have b2 := hkeep _ _ (by omega) HX1.out
    obtain ⟨a0, a1, _, _⟩ := ref_facts b1
    obtain ⟨e0, e1, f0, f1⟩ := ref_facts b2
    have ne1 : ¬ g' = w.heap.size := by omega
    have ne2 : ¬ g' = w0.heap.size := by omega
    have ne3 : ¬ w.heap.size = g' := by omega
    have ne4 : ¬ w0.heap.size = g' := by omega
    have HST := Lib.hid hst
    have HB2' := Lib.hid b2
    have HB3 := Lib.hid hB3
    obtain ⟨Ax, cx, hxv⟩ := OW.slice HXX.out
    subst hxv
    clear hg hat hown hst b1 b2 hR3 hy hkeep a0 hB3
    generalize w0.heap.size = b0 at *
    go_wp2
    have hb0 : (w3.setCell ⟨g', c, none⟩ (.slice Ax l.length cx)).heap[b0]? = some (.cells #[Value.slice none 0 0, .int .i64 0] 89 (0, 0)) := (heap_setCell_other _ _ _ _ (fun e => ne4 e)).trans HB2'.out
    have hb1 := heap_setCell_same _ _ 0 _ _ (.slice (some ⟨g', 0, none⟩) n cap') hb0
    have hb2 := heap_setCell_same _ _ 1 _ _ (.int .i64 (m : Nat)) hb1
    have hbox : (((w3.setCell ⟨g', c, none⟩ (.slice Ax l.length cx)).setCell ⟨b0, 0, none⟩ (.slice (some ⟨g', 0, none⟩) n cap')).setCell ⟨b0, 1, none⟩ (.int .i64 (m : Nat))).heap[b0]? = some (.cells #[.slice (some ⟨g', 0, none⟩) n cap', .int .i64 (m : Nat)] 89 (0, 0)) := by simpa using hb2
    (try simp only [Exit.inBlock, Exit.then])
    refine bodyPost_ret (results_cell_row rfl _ _ _ _ _ _ _ rfl hbox Try.underlying89 rfl rfl) rfl ?_
    refine ⟨g', cap', rfl, ?_, ?_⟩
    · have h0 := HST.out.box (j := 0) hb0 (.slice (some ⟨g', 0, none⟩) n cap')
      exact h0.box (j := 1) hb1 (.int .i64 (m : Nat))
    · refine Below.setCell (Below.setCell (Below.setCell HB3.out ?_ _) ?_ _) ?_ _
      all_goals (simp; try omega)
end
end Go.Proofs.Ytgcfiiidhihkaaa.C
