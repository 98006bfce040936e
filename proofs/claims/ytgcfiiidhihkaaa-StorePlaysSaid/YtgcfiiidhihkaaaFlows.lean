/- The walk of Flows (stores). -/
import Derived.Test.YtgcfiiidhihkaaaStoW
import Derived.Test.YtgcfiiidhihkaaaOwn
import Derived.Deep.DeepMust
namespace Go.Proofs.Ytgcfiiidhihkaaa.C
open Go.RowKit
set_option linter.unusedVariables false
/-- A packet's flow. -/
def flowA (x : Array Value) : Array Value := x.extract 1 37
theorem flow_size {x : Array Value} (h : Pk x) : (flowA x).size = 36 := by simp [flowA, h.size]
theorem flow_at {x : Array Value} (h : Pk x) {j : Nat} (hj : j < 36) : (flowA x)[j]? = x[1 + j]? := by
  unfold flowA
  rw [Array.getElem?_extract, if_pos (by rw [h.size]; omega)]
theorem flow_one {x : Array Value} (h : Pk x) : ∀ u ∈ (flowA x).toList, u.oneCell' = true := by
  intro u hu
  obtain ⟨j, hj⟩ := List.getElem?_of_mem hu
  have hj' := (List.getElem?_eq_some_iff.1 hj).1
  rw [Array.length_toList, flow_size h] at hj'
  rw [Array.getElem?_toList, flow_at h hj'] at hj
  exact Array.all_eq_true_iff_forall_mem.1 h.one u (Array.mem_of_getElem? hj)
theorem flow_info : (Try.prog.info? 74).map (fun i => (i.zero, i.size, i.bytes)) = some (some (.agg (flowA PZ)), 36, 38) := by kernel_rfl
theorem flow_sz : (Try.prog.info? 74).map (·.size) = some 36 := by kernel_rfl
theorem flow_desc : ∃ d, Try.prog.underlying 74 = some d ∧ d.isRow = true := ⟨_, Try.underlying74, rfl⟩
theorem flow_load {w : World} {b : Nat} {x : Array Value} {t : TypeId} (h : w.heap[b]? = some (.cells x t (0, 0))) (hx : Pk x) : (Instr.loadAt 74 (.pointer (some ⟨b, 1, none⟩))).run Try.prog w = .ok (.agg (flowA x)) w := by
  obtain ⟨d, hd1, hd2⟩ := flow_desc
  have := run_loadAt_mid (P := Try.prog) w b 1 74 (flowA x).toList d (range_of_block h fun j v hv => by
    have hj := (List.getElem?_eq_some_iff.1 hv).1
    rw [Array.length_toList, flow_size hx] at hj
    rw [Array.getElem?_toList, flow_at hx hj] at hv
    exact hv) hd1 hd2 (by rw [flow_sz, Array.length_toList, flow_size hx])
  simpa using this
/-- Flows, as cells. -/
def flowsL (l : List (Array Value)) : List Value := (l.map fun x => (flowA x).toList).flatten
theorem flowsL_snoc (l : List (Array Value)) (x : Array Value) : flowsL l ++ (flowA x).toList = flowsL (l ++ [x]) := by simp [flowsL]
theorem flowsL_at {l : List (Array Value)} (h : ∀ x ∈ l, Pk x) {k j : Nat} {x : Array Value} (hx : l[k]? = some x) (hj : j < 36) : (flowsL l)[k * 36 + j]? = (flowA x)[j]? := by
  unfold flowsL
  rw [flat_at _ (fun c hc => by obtain ⟨x, hx, rfl⟩ := List.mem_map.1 hc; simpa using flow_size (h x hx)) k j (flowA x).toList (by simp [hx]) hj]
  simp
/-- A class's packets. -/
def clsS (L : List (List (Array Value))) (c : Int) : List (Array Value) := if 0 ≤ c then L.getD c.toNat [] else []
theorem clsS_some {L : List (List (Array Value))} {c : Nat} {l : List (Array Value)} (hl : L[c]? = some l) : clsS L (c : Nat) = l := by
  unfold clsS
  rw [if_pos (by omega), Int.toNat_natCast, List.getD_eq_getElem?_getD, hl]
  rfl
theorem clsS_out {L : List (List (Array Value))} {c : Int} (h : ¬ (0 ≤ c ∧ c < L.length)) : clsS L c = [] := by
  unfold clsS
  by_cases h0 : 0 ≤ c
  · rw [if_pos h0, List.getD_eq_getElem?_getD, List.getElem?_eq_none (by omega)]
    rfl
  · rw [if_neg h0]
theorem clsS_at {L : List (List (Array Value))} (c : Int) (k : Nat) : atS L c (k : Nat) = (clsS L c)[k]? := by
  by_cases hc : 0 ≤ c ∧ c < L.length
  · obtain ⟨c, rfl⟩ := Int.eq_ofNat_of_zero_le hc.1
    obtain ⟨l, hl⟩ : ∃ l, L[c]? = some l := ⟨_, List.getElem?_eq_getElem (by omega)⟩
    rw [clsS_some hl, atS_some hl]
  · rw [clsS_out hc]
    unfold atS
    by_cases h0 : 0 ≤ c
    · rw [if_pos (by omega), List.getElem?_eq_none (by omega)]
      simp
    · rw [if_neg (by omega)]
      simp
section
variable {w : World} {a : Adr} {L : List (List (Array Value))} {R : Nat}
theorem st_len_any (c : Int) (h : Sto w a L R) :
    Calls Try.prog 47 #[.pointer (some ⟨a.sb, 0, none⟩), .int .i64 c] w fun e w' => e = .returned (.int .i64 ((clsS L c).length : Nat)) ∧ w' = w := by
  by_cases hc : 0 ≤ c ∧ c < L.length
  · obtain ⟨c, rfl⟩ := Int.eq_ofNat_of_zero_le hc.1
    obtain ⟨l, hl⟩ : ∃ l, L[c]? = some l := ⟨_, List.getElem?_eq_getElem (by omega)⟩
    rw [clsS_some hl]
    exact st_len c l h hl
  · rw [clsS_out hc]
    exact st_len_no c h hc
theorem st_bytes_any (c : Int) (h : Sto w a L R) :
    Calls Try.prog 46 #[.pointer (some ⟨a.sb, 0, none⟩), .int .i64 c] w fun e w' => e = .returned (.int .i64 (sumL (clsS L c))) ∧ w' = w := by
  by_cases hc : 0 ≤ c ∧ c < L.length
  · obtain ⟨c, rfl⟩ := Int.eq_ofNat_of_zero_le hc.1
    obtain ⟨l, hl⟩ : ∃ l, L[c]? = some l := ⟨_, List.getElem?_eq_getElem (by omega)⟩
    rw [clsS_some hl]
    exact st_bytes c l h hl
  · rw [clsS_out hc]
    exact st_bytes_no c h hc
theorem cls_len (c : Int) (h : Sto w a L R) : (clsS L c).length ≤ 4096 ∧ ∀ x ∈ clsS L c, Pk x ∧ x[45]? = some (.int .i64 (lenP x)) ∧ 1 ≤ lenP x ∧ lenP x ≤ 9216 := by
  refine ⟨?_, fun x hx => ?_⟩
  · by_cases hc : 0 ≤ c ∧ c < L.length
    · obtain ⟨c, rfl⟩ := Int.eq_ofNat_of_zero_le hc.1
      obtain ⟨l, hl⟩ : ∃ l, L[c]? = some l := ⟨_, List.getElem?_eq_getElem (by omega)⟩
      rw [clsS_some hl]
      obtain ⟨A, fl, Q, hS⟩ := h
      have := total_le L l (List.mem_of_getElem? hl)
      have := hS.len
      omega
    · rw [clsS_out hc]
      simp
  · obtain ⟨k, hk⟩ := List.getElem?_of_mem hx
    rw [← clsS_at] at hk
    exact atS_pk h hk
set_option maxRecDepth 100000 in
set_option maxHeartbeats 1000000 in
theorem st_flows (c : Int) (h : Sto w a L R) :
    Calls Try.prog 70 #[.pointer (some ⟨a.sb, 0, none⟩), .int .i64 c] w fun e w' => ∃ v, e = .returned v ∧ w'.ownsRow w.heap.size 74 36 v (clsS L c).length (flowsL (clsS L c)) ∧ Below w.heap.size w w' := by
  obtain ⟨i0, hi, hz0, hz1, hz2⟩ := info_parts flow_info
  have Hi := Lib.hid hi
  have Hz0 := Lib.hid hz0
  have Hz1 := Lib.hid hz1
  have Hz2 := Lib.hid hz2
  obtain ⟨hl4, hpk⟩ := cls_len c h
  have CL := Lib.hid (st_len_any c h)
  have CA := Lib.hid (fun (k : Nat) w' (hs : Sto w' a L R) => st_at c (k : Nat) hs)
  simp only [clsS_at] at CA
  have HS := Lib.hid h
  have HPK := Lib.hid hpk
  clear hi hz0 hz1 hz2 h hpk
  generalize clsS L c = l at *
  generalize hll : l.length = n at *
  have HLL := Lib.hid hll
  clear hll
  go_enter Try.func70, Try.ntmps70
  go_wp2_with fail
  refine CL.out.mono ?_
  rintro e w1 ⟨rfl, hw⟩
  subst hw
  clear CL
  go_wp2_with fail
  go_loopw [5, 12] (fun s t wr => ∃ k : Nat, k ≤ n ∧ t = .int .i64 k ∧ wr.ownsRow w1.heap.size 74 36 s k (flowsL (l.take k)) ∧ Sto wr a L R ∧ Below w1.heap.size w1 wr) (fun _ t _ => n - (intOf t).toNat)
  case atStart => exact ⟨0, by omega, rfl, World.ownsRow_nil _ _ _ _, HS.out, Below.refl _ _⟩
  case round =>
    obtain ⟨k, hk, rfl, hown, hS, hB⟩ := hrel
    by_cases hlt : k < n
    · obtain ⟨x, hx⟩ : ∃ x, l[k]? = some x := ⟨_, List.getElem?_eq_getElem (by have := HLL.out; omega)⟩
      have CA1 := Lib.hid (CA.out k wr hS)
      rw [hx] at CA1
      have HX := Lib.hid hx
      have HPX := Lib.hid (HPK.out x (List.mem_of_getElem? hx)).1
      have HOWN := Lib.hid hown
      have HS1 := Lib.hid hS
      have HB1 := Lib.hid hB
      have hkI : (k : Int) < (n : Int) := by omega
      clear hx hown hS hB
      go_wp2_with fail
      refine CA1.out.mono ?_
      rintro e w2 ⟨rfl, hB2⟩
      simp only [Option.getD_some, Option.isSome_some]
      have HOWN2 := Lib.hid (OW.below HOWN.out hB2)
      have HS2 := Lib.hid (HS1.out.below hB2)
      have HB2 := Lib.hid (HB1.out.trans (hB2.mono HB1.out.size))
      clear CA1 HOWN HS1 HB1 hB2
      go_upto_region 6 with (first
        | ((with_reducible refine arm_alloc 7 79 PZ 46 pz_zero ?_); intro w3 HB3 HX3 HS3; have hst := pkt_store HX3.out HPX.out)
        | ((with_reducible refine arm_store 7 20 79 (.pointer (some ⟨w2.heap.size, 0, none⟩)) (.agg x) _ hst ?_ ?_ ?_); rfl; rfl))
      have hbx := box_whole HX3.out (cs := x) HPX.out.size
      have hB4 := below_setCells (b := w2.heap.size) (Nat.le_refl _) x.toList 0 HB3.out
      have HOWN4 := Lib.hid (OW.below HOWN2.out hB4)
      have HS4 := Lib.hid (HS2.out.below hB4)
      have HB4 := Lib.hid (HB2.out.trans (hB4.mono HB2.out.size))
      clear hst hB4 HOWN2 HS2 HB2 HB3 HX3 HS3
      generalize w3.setCells w2.heap.size 0 x.toList = w4 at *
      generalize w2.heap.size = b7 at *
      have hld := flow_load hbx HPX.out
      have hsz4 := HB4.out.size
      have HFS := Lib.hid (flow_size HPX.out)
      have HFO := Lib.hid (flow_one HPX.out)
      clear hbx
      go_wp2_with (first
        | ((with_reducible refine arm_load 24 23 74 (.pointer (some ⟨b7, 1, none⟩)) (.agg (flowA x)) hld ?_ ?_); rfl)
        | ((with_reducible refine wpList_buildSlice_one 25 24 131 74 (flowA x) 36 ?_ ?_ ?_ ?_ ?_ ?_ ?_ ?_); rfl; exact Try.underlying131; exact flow_sz; (exact ⟨.agg (flowA PZ), by rw [Hi.out]; simp [Hz0.out]⟩); omega; omega; (exact HFS.out))
        | (at_builtin; go_must (refine wpList_append_own_at _ rfl (.tmp 22) (.tmp 25) 131 rfl w1.heap.size 74 i0 (.agg (flowA PZ)) 36 38 Try.underlying131 Hi.out Hz0.out Hz1.out Hz2.out rfl (by omega) u5 k (flowsL (l.take k)) rfl (by exact World.ownsRow.alloc (w := w4) HOWN4.out _) ⟨w4.heap.size, 0, none⟩ 1 1 (flowA x).toList rfl ?_ ?_ HFO.out ?_ ?_ ?_ ?_)))
      · rw [Array.length_toList, HFS.out]
      · intro j u hu
        rw [OW.addr_off, Nat.zero_add, cell_of_row _ _ _ _ _ _ (Go.heap_alloc_new w4 _)]
        simpa using hu
      · simp only [maxLen]; omega
      · omega
      · simp; omega
      · intro v' w' hown' hg _ hat
        have hB' : Below w1.heap.size w1 w' := (HB4.out.alloc hsz4 (.cells (flowA x) 74)).grown hg (by simp; omega) (fun q hq => (World.ownsRow.lt HOWN4.out q hq).1)
        have hB5 : ∀ q, q < w4.heap.size → some q ≠ u5.ownBlock → w'.heap[q]? = w4.heap[q]? := fun q hq hne => by
          rw [hg.block q (by simp; omega) hne, Go.heap_alloc_old _ _ hq]
        have hS' : Sto w' a L R := HS.out.below hB'
        have hown2 : w'.ownsRow w1.heap.size 74 36 v' (k + 1) (flowsL (l.take (k + 1))) := by
          have hkl := lt_of_some HX.out
          have e : l.take (k + 1) = l.take k ++ [x] := by
            rw [List.take_succ_eq_append_getElem hkl]
            have := HX.out
            rw [List.getElem?_eq_getElem hkl] at this
            injection this with this
            rw [this]
          rw [e, ← flowsL_snoc]
          exact hown'
        have HO := Lib.hid hown2
        have HS' := Lib.hid hS'
        have HB' := Lib.hid hB'
        clear hown' hg hat hB' hB5 hS' hown2 hld
        go_wp2
        go_roundw
        case rel => exact ⟨k + 1, by omega, by go_num, HO.out, HS'.out, HB'.out⟩
        case measure => simp [intOf]; omega
    · obtain rfl : k = n := by omega
      have e : l.take k = l := List.take_of_length_le (by have := HLL.out; omega)
      rw [e] at hown
      have HO := Lib.hid hown
      have HB' := Lib.hid hB
      clear hown hS hB e
      go_wp2
      go_ret
      exact ⟨_, rfl, HO.out, HB'.out⟩
end
end Go.Proofs.Ytgcfiiidhihkaaa.C
