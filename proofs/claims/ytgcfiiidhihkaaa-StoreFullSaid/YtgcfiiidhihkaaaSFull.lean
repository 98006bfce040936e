/- The walk of StoreFull. -/
import Derived.Test.YtgcfiiidhihkaaaStoA
import Derived.Test.YtgcfiiidhihkaaaArgs
namespace Go.Proofs.Ytgcfiiidhihkaaa.C
open Go.RowKit
set_option linter.unusedVariables false
theorem sfull_no (r : Int) (b : Option Addr) (len cap : Nat) (w : World) (h : len < 1 ∨ (1 ≤ len ∧ 200 < len)) (hm : len ≤ 9223372036854775807) :
    Calls Try.prog 11 #[.int .u8 r, .slice b len cap] w fun e w' => e = .returned (.bool true) ∧ Below w.heap.size w w' := by
  have Ha := Lib.hid st_awake
  rcases h with h | ⟨h0, h⟩
  · obtain rfl : len = 0 := by omega
    go_enter Try.func11, Try.ntmps11
    go_wp2_with fail
    refine (Ha.out _).mono ?_
    rintro e w1 ⟨rfl, hB1⟩
    go_wp2_with fail
    refine (Ha.out _).mono ?_
    rintro e w2 ⟨rfl, hB2⟩
    go_wp2
    go_ret
    exact ⟨rfl, hB1.trans (hB2.mono hB1.size)⟩
  · have d0 : decide (len < 1) = false := by simp; omega
    go_enter Try.func11, Try.ntmps11
    go_wp2_with fail
    refine (Ha.out _).mono ?_
    rintro e w1 ⟨rfl, hB1⟩
    go_wp2_with fail
    refine (Ha.out _).mono ?_
    rintro e w2 ⟨rfl, hB2⟩
    go_wp2
    go_ret
    exact ⟨rfl, hB1.trans (hB2.mono hB1.size)⟩
set_option maxRecDepth 100000 in
set_option maxHeartbeats 1000000 in
theorem sfull_main (r : Nat) (b : Option Addr) (K : List Int) (cap : Nat) (w : World) (h0 : 1 ≤ K.length) (h1 : K.length ≤ 200) (hr : r ≤ 255) (hK : Nums .u8 w b K) :
    Calls Try.prog 11 #[.int .u8 (r : Nat), .slice b K.length cap] w fun e w' => e = .returned (.bool true) ∧ Below w.heap.size w w' := by
  have Ha := Lib.hid (st_awake w)
  have HK := Lib.hid hK
  clear hK
  generalize hlK : K.length = lK at *
  have HLK := Lib.hid hlK
  clear hlK
  obtain ⟨n, hn⟩ : ∃ n, 1 + r % lK = n := ⟨_, rfl⟩
  have hmod : r % lK < lK := Nat.mod_lt _ (by omega)
  have n1 : 1 ≤ n := by omega
  have n2 : n ≤ lK := by omega
  have e1 : (1 : Int) + (r : Int) % (lK : Int) = (n : Int) := by rw [← hn]; omega
  have d0 : decide (lK < 1) = false := by simp; omega
  have d1 : decide (200 < lK) = false := by simp; omega
  clear hn hmod
  go_enter Try.func11, Try.ntmps11
  go_wp2_with fail
  refine Ha.out.mono ?_
  rintro e w1 ⟨rfl, hB1⟩
  have CN := Lib.hid (st_new 5 n w1 (by omega) (by omega) (by omega) (by omega))
  clear Ha
  go_wp2_with fail
  refine CN.out.mono ?_
  rintro e w2 ⟨a, rfl, hge, hS, hB2⟩
  have HB := Lib.hid (hB1.trans (hB2.mono hB1.size))
  have HGE := Lib.hid (fun x hx => Nat.le_trans hB1.size (hge x hx))
  have HS := Lib.hid hS
  obtain ⟨k0, hk0⟩ : ∃ v, K[0]? = some v := ⟨_, List.getElem?_eq_getElem (by have := HLK.out; omega)⟩
  obtain ⟨x0, rfl, _, _, hw0⟩ := HK.out 0 k0 hk0
  obtain ⟨k00, k01⟩ := bounds_u8 hw0
  obtain ⟨k0, rfl⟩ := Int.eq_ofNat_of_zero_le k00
  obtain ⟨c0, hc0⟩ : ∃ c0, k0 % 5 = c0 := ⟨_, rfl⟩
  have hc05 : c0 < 5 := by omega
  have HK0 := Lib.hid hk0
  have HC0 := Lib.hid hc0
  clear CN hB1 hB2 hge hS hk0 hw0 k00 hc0 e1
  go_wp2_with fail
  go_loopw [38] (fun t wr => ∃ (k : Nat) (L : List (List (Array Value))), k ≤ n ∧ t = .int .i64 k ∧ Sto wr a L n ∧ L.length = 5 ∧ total L = k ∧ (0 < k → ∃ l, L[c0]? = some l ∧ l[0]? = some (pkOf 0 1)) ∧ Below w.heap.size w wr) (fun t _ => n - (intOf t).toNat)
  case atStart => exact ⟨0, _, by omega, rfl, HS.out, by simp, by simp [total], fun h => absurd h (by omega), HB.out⟩
  case round =>
    obtain ⟨k, L, hk, rfl, hS, hL5, htot, hhd, hB⟩ := hrel
    by_cases hlt : k < n
    · obtain ⟨kd, hkd⟩ : ∃ v, K[k]? = some v := ⟨_, List.getElem?_eq_getElem (by have := HLK.out; omega)⟩
      obtain ⟨x, hx, hck, hwk⟩ := HK.out.below hB hkd
      obtain rfl : x0 = x := by injection hx
      obtain ⟨hk0, hk1⟩ := bounds_u8 hwk
      obtain ⟨kd, rfl⟩ := Int.eq_ofNat_of_zero_le hk0
      obtain ⟨c, hc⟩ : ∃ c, kd % 5 = c := ⟨_, rfl⟩
      have e5 : (kd : Int) % 5 = (c : Int) := by omega
      have hc5 : c < 5 := by omega
      obtain ⟨l, hl⟩ : ∃ l, L[c]? = some l := ⟨_, List.getElem?_eq_getElem (by omega)⟩
      have C : Hid (Calls Try.prog 43 #[.pointer (some ⟨a.sb, 0, none⟩), .int .i64 (c : Nat), .agg (pkOf k 1)] wr _) := push_yes c 1 (pkOf k 1) l hS (pkOf_ok _ 1) hl (by omega) (by omega)
      have HT : Hid (total (L.set c (l ++ [pkOf k 1])) = k + 1) := by
        have := total_set L c l (l ++ [pkOf k 1]) hl
        simp only [List.length_append, List.length_cons, List.length_nil] at this
        exact (by omega : total (L.set c (l ++ [pkOf k 1])) = k + 1)
      have HL5 : Hid ((L.set c (l ++ [pkOf k 1])).length = 5) := by
        rw [List.length_set]; exact Lib.hid hL5
      have HHD : Hid (∃ l', (L.set c (l ++ [pkOf k 1]))[c0]? = some l' ∧ l'[0]? = some (pkOf 0 1)) := by
        have : ∃ l', (L.set c (l ++ [pkOf k 1]))[c0]? = some l' ∧ l'[0]? = some (pkOf 0 1) := by
          by_cases hk : k = 0
          · subst hk
            have hcc : c = c0 := by
              rw [HK0.out] at hkd
              injection hkd with hkd
              have := HC0.out
              omega
            have hll : l = [] := List.eq_nil_of_length_eq_zero (by have := total_le L l (List.mem_of_getElem? hl); omega)
            subst hcc hll
            exact ⟨_, List.getElem?_set_self (by omega), rfl⟩
          · obtain ⟨l0, h1, h2⟩ := hhd (by omega)
            by_cases hcc : c = c0
            · subst hcc
              rw [hl] at h1
              injection h1 with h1
              subst h1
              exact ⟨_, List.getElem?_set_self (by omega), by rw [List.getElem?_append_left (lt_of_some h2)]; exact h2⟩
            · exact ⟨l0, by rw [List.getElem?_set_ne hcc]; exact h1, h2⟩
        exact Lib.hid this
      have hbl := build_seq (k : Nat) 1 wr
      have HB' := Lib.hid hB
      clear hS hL5 htot hhd hl hkd hwk hk0 hc hx hB HS HB
      go_wp2_with ((with_reducible refine arm_build 49 79 #[(0, .tmp 48), (3, .const (.int .i64 1))] #[(0, .int .i64 (k : Nat)), (3, .int .i64 1)] (.agg (pkOf k 1)) hbl ?_ ?_); rfl)
      refine C.out.mono ?_
      rintro e w3 ⟨rfl, hS3, hA3⟩
      have HS3 := Lib.hid hS3
      have HB3 := Lib.hid (HB'.out.trans (hA3.below HB'.out.size fun y hy => HGE.out y (by simp [hy])))
      clear C hS3 hA3 hbl e5 hck
      go_wp2_with fail
      go_roundw
      case rel => exact ⟨k + 1, _, by omega, by go_num, HS3.out, HL5.out, HT.out, fun _ => HHD.out, HB3.out⟩
      case measure => simp [intOf]; omega
    · obtain rfl : k = n := by omega
      obtain ⟨l, hl, hl0⟩ := hhd (by omega)
      obtain ⟨x, hx, hck, hwk⟩ := HK.out.below hB HK0.out
      obtain rfl : x0 = x := by injection hx
      have hck' : wr.cell? x0 = some (.int .u8 (k0 : Nat)) := by simpa [Addr.add] using hck
      have e5 : (k0 : Int) % 5 = (c0 : Int) := by have := HC0.out; omega
      have C1 : Hid (Calls Try.prog 43 #[.pointer (some ⟨a.sb, 0, none⟩), .int .i64 (c0 : Nat), .agg (pkOf 0 1)] wr _) := push_full (c0 : Nat) 1 (pkOf 0 1) hS (pkOf_ok 0 1) (by omega) (by omega) htot
      have hat : atS L (c0 : Nat) 0 = some (pkOf 0 1) := (atS_some (k := 0) hl).trans hl0
      have hcut : cutS L (c0 : Nat) 0 = L.set c0 (l.eraseIdx 0) := by
        unfold cutS
        rw [hat, Option.isSome_some, if_pos rfl, Int.toNat_natCast, List.getD_eq_getElem?_getD, hl]
        rfl
      have htl := total_le L l (List.mem_of_getElem? hl)
      have hll := lt_of_some hl0
      have ht2 : total (L.set c0 (l.eraseIdx 0)) = k - 1 := by
        have := total_set L c0 l (l.eraseIdx 0) hl
        rw [List.length_eraseIdx_of_lt hll] at this
        omega
      have CP := Lib.hid (fun w' (h' : Sto w' a L k) => st_pop (c0 : Nat) h')
      rw [hat, hcut] at CP
      have HS' := Lib.hid hS
      have HB' := Lib.hid hB
      have hL5' : (L.set c0 (l.eraseIdx 0)).length = 5 := by rw [List.length_set]; exact hL5
      generalize L.set c0 (l.eraseIdx 0) = L2 at *
      have HL5 := Lib.hid hL5'
      have HT2 := Lib.hid ht2
      have hbl := build_len 1 wr
      clear hS hB HS HB htot hhd hl hl0 hx hwk hat hcut htl hll ht2 hL5' hL5 hk hlt
      go_wp2_with ((with_reducible refine arm_build 60 79 #[(3, .const (.int .i64 1))] #[(3, .int .i64 1)] (.agg (pkOf 0 1)) hbl ?_ ?_); rfl)
      refine C1.out.mono ?_
      rintro e w3 ⟨rfl, hB3⟩
      have HS3 := Lib.hid (HS'.out.below hB3)
      have HB3 := Lib.hid (HB'.out.trans (hB3.mono HB'.out.size))
      clear C1 hB3 HS' HB' hbl hck hck' e5
      go_wp2_with fail
      refine (CP.out _ HS3.out).mono ?_
      rintro e w4 ⟨rfl, hS4, hA4⟩
      have HS4 := Lib.hid hS4
      have HB4 := Lib.hid (HB3.out.trans (hA4.below HB3.out.size fun y hy => HGE.out y (by simp [hy])))
      clear CP hS4 hA4 HS3 HB3
      go_upto_region 14 with (first
        | ((with_reducible refine arm_alloc 11 79 PZ 46 pz_zero ?_); intro w5 HB5 HX5 HSS5; have hst := pkt_store HX5.out (pkOf_ok 0 1).pk)
        | ((with_reducible refine arm_store 11 66 79 (.pointer (some ⟨w4.heap.size, 0, none⟩)) (.agg (pkOf 0 1)) _ hst ?_ ?_ ?_); rfl; rfl))
      have hbx := box_whole HX5.out (cs := pkOf 0 1) rfl
      have hB6 := below_setCells (b := w4.heap.size) (Nat.le_refl _) (pkOf 0 1).toList 0 HB5.out
      have hS6 := HS4.out.below hB6
      have hseq : (w5.setCells w4.heap.size 0 (pkOf 0 1).toList).cell? ⟨w4.heap.size, 0, none⟩ = some (.int .i64 0) := by rw [cell_of_row _ _ _ _ _ _ hbx]; rfl
      have HB6 := Lib.hid (HB4.out.trans (hB6.mono HB4.out.size))
      have C3 := Lib.hid (st_free hS6)
      rw [HT2.out, show k - (k - 1) = 1 by omega] at C3
      obtain ⟨l4, hl4⟩ : ∃ l4, L2[4]? = some l4 := ⟨_, List.getElem?_eq_getElem (by have := HL5.out; omega)⟩
      have C4 : Hid (Calls Try.prog 43 #[.pointer (some ⟨a.sb, 0, none⟩), .int .i64 4, .agg (pkOf 0 1)] (w5.setCells w4.heap.size 0 (pkOf 0 1).toList) _) := push_yes 4 1 (pkOf 0 1) l4 hS6 (pkOf_ok 0 1) hl4 (by omega) (by have := HT2.out; omega)
      have HT3 : Hid (total (L2.set 4 (l4 ++ [pkOf 0 1])) = k) := by
        have h := total_set L2 4 l4 (l4 ++ [pkOf 0 1]) hl4
        have h' := HT2.out
        simp only [List.length_append, List.length_cons, List.length_nil] at h
        exact Lib.hid (by omega)
      have hbl := build_len 1 (w5.setCells w4.heap.size 0 (pkOf 0 1).toList)
      clear hst hbx hB6 hS6 HS4 HB4 HB5 HX5 HSS5 hl4 HT2
      generalize w5.setCells w4.heap.size 0 (pkOf 0 1).toList = w6 at *
      generalize w4.heap.size = b4 at *
      go_wp2_with fail
      refine C3.out.mono ?_
      rintro e w7 ⟨rfl, rfl⟩
      go_wp2_with ((with_reducible refine arm_buildg 85 79 #[(3, .const (.int .i64 1))] #[(3, .int .i64 1)] (.agg (pkOf 0 1)) hbl ?_ ?_ ?_); rfl; rfl)
      refine C4.out.mono ?_
      rintro e w8 ⟨rfl, hS8, hA8⟩
      have C5 := Lib.hid (st_free hS8)
      rw [HT3.out, Nat.sub_self] at C5
      have HB8 := Lib.hid (HB6.out.trans (hA8.below HB6.out.size fun y hy => HGE.out y (by simp [hy])))
      clear C3 C4 hS8 hA8 hbl hseq
      go_wp2_with fail
      refine C5.out.mono ?_
      rintro e w9 ⟨rfl, rfl⟩
      go_wp2
      go_ret
      exact ⟨rfl, HB8.out⟩
theorem walk_sfull (r : Int) (b : Option Addr) (len cap : Nat) (zs : List Int) (w : World) (hr : (Lit.int .u8 r).wf = true) (hb : IsRow .u8 w b len cap zs) :
    Calls Try.prog 11 #[.int .u8 r, .slice b len cap] w fun e w' => e = .returned (.bool true) ∧ Below w.heap.size w w' := by
  obtain ⟨K, rfl, hK, hm⟩ := nums_of hb
  obtain ⟨r0, r1⟩ := bounds_u8 hr
  obtain ⟨r, rfl⟩ := Int.eq_ofNat_of_zero_le r0
  by_cases hc : 1 ≤ K.length ∧ K.length ≤ 200
  · exact sfull_main r b K cap w hc.1 hc.2 (by omega) hK
  · exact sfull_no r b K.length cap w (by omega) hm
end Go.Proofs.Ytgcfiiidhihkaaa.C
