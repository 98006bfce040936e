/- The walk of RingCuts. -/
import Derived.Test.YtpeedbnboghafaaRingC
import Derived.Test.YtpeedbnboghafaaMailO
namespace Go.Proofs.Ytpeedbnboghafaa.C
open Go.RowKit
set_option linter.unusedVariables false
/-- What is in the ring when k of the list have been looked at, the n-th being cut. -/
def restC (L : List Int) (n k : Nat) : List Int := if k ≤ n then (L.drop k).eraseIdx (n - k) else L.drop k
theorem restC_zero (L : List Int) (n : Nat) : restC L n 0 = L.eraseIdx n := by simp [restC]
theorem drop_cons' {L : List Int} {k : Nat} {v : Int} (hv : L[k]? = some v) : L.drop k = v :: L.drop (k + 1) := by
  have hlt := lt_of_some hv
  rw [List.drop_eq_getElem_cons hlt]
  congr 1
  rw [List.getElem?_eq_getElem hlt] at hv
  injection hv
theorem restC_same {L : List Int} {n : Nat} {v : Int} (hv : L[n]? = some v) : restC L n n = restC L n (n + 1) := by
  unfold restC
  rw [if_pos (Nat.le_refl _), if_neg (by omega), Nat.sub_self, drop_cons' hv]
  rfl
theorem restC_other {L : List Int} {n k : Nat} {v : Int} (hv : L[k]? = some v) (hk : k ≠ n) : restC L n k = v :: restC L n (k + 1) := by
  unfold restC
  by_cases h : k ≤ n
  · rw [if_pos h, if_pos (by omega), drop_cons' hv, show n - k = (n - (k + 1)) + 1 by omega]
    rfl
  · rw [if_neg h, if_neg (by omega), drop_cons' hv]
theorem restC_end {L : List Int} {n : Nat} (h : n < L.length) : restC L n L.length = [] := by
  unfold restC
  rw [if_neg (by omega)]
  exact List.drop_length

set_option maxHeartbeats 1000000 in
theorem cuts_none (a : Option Addr) (len cap : Nat) (at_ : Int) (w : World) (h : len = 0 ∨ 50 < len) (hm : len ≤ 9223372036854775807) :
    Calls Try.prog 9 #[.slice a len cap, .int .u8 at_] w fun e w' => e = .returned (.bool true) ∧ Below w.heap.size w w' := by
  have Ha := Lib.hid RI.awake
  by_cases h0 : len = 0
  · subst h0
    go_enter Try.func9, Try.ntmps9
    go_wp2_with fail
    refine (Ha.out _).mono ?_
    rintro e w1 ⟨rfl, hB1⟩
    go_wp2_with fail
    refine (Ha.out _).mono ?_
    rintro e w2 ⟨rfl, hB2⟩
    go_wp2
    go_ret
    exact ⟨rfl, hB1.trans (hB2.mono hB1.size)⟩
  · have b0 : ((len : Int) == 0) = false := beq_false_of_ne (by omega)
    have h1 : 50 < len := by omega
    go_enter Try.func9, Try.ntmps9
    go_wp2_with fail
    refine (Ha.out _).mono ?_
    rintro e w1 ⟨rfl, hB1⟩
    go_wp2_with fail
    refine (Ha.out _).mono ?_
    rintro e w2 ⟨rfl, hB2⟩
    go_wp2
    go_ret
    exact ⟨rfl, hB1.trans (hB2.mono hB1.size)⟩

set_option maxRecDepth 100000 in
set_option maxHeartbeats 2000000 in
theorem cuts_main (a : Option Addr) (cap g : Nat) (L : List Int) (w : World) (hg : g ≤ 255) (h0 : 0 < L.length) (h1 : L.length ≤ 50) (hN : Nums w a L) :
    Calls Try.prog 9 #[.slice a L.length cap, .int .u8 g] w fun e w' => e = .returned (.bool true) ∧ Below w.heap.size w w' := by
  obtain ⟨n, hn⟩ : ∃ n, g % L.length = n := ⟨_, rfl⟩
  have hnl : n < L.length := by rw [← hn]; exact Nat.mod_lt _ h0
  have e2 : (g : Int) % (L.length : Int) = (n : Int) := by rw [← Int.natCast_emod, hn]
  have HN := Lib.hid hN
  have Ha := Lib.hid (RI.awake w)
  have b0 : ((L.length : Int) == 0) = false := beq_false_of_ne (by omega)
  have d1 : decide (50 < L.length) = false := by simp; omega
  clear hn hN
  go_enter Try.func9, Try.ntmps9
  go_wp2_with fail
  refine Ha.out.mono ?_
  rintro e w1 ⟨rfl, hB1⟩
  have HNEW := Lib.hid (RI.r_new L.length w1 (by omega) (by omega))
  clear Ha
  go_wp2_with fail
  refine HNEW.out.mono ?_
  rintro e w2 ⟨rfl, hS, hB2⟩
  have hB := hB1.trans (hB2.mono hB1.size)
  have hpb : w.heap.size ≤ w1.heap.size := hB1.size
  clear HNEW
  generalize w1.heap.size = b at hS hpb
  have HS := Lib.hid hS
  clear hB1 hB2 hS
  go_wp2_with fail
  go_loopw [35] (fun i wr => ∃ k : Nat, k ≤ L.length ∧ i = .int .i64 k ∧ RI.Ring wr (b + 1) b L.length (L.take k) ∧ Below w.heap.size w wr) (fun i _ => L.length - (intOf i).toNat)
  case atStart => exact ⟨0, by omega, rfl, by simpa using HS.out, hB⟩
  case round =>
    obtain ⟨k, hk, rfl, hS, hBr⟩ := hrel
    by_cases hlt : k < L.length
    · obtain ⟨v, hv⟩ : ∃ v, L[k]? = some v := ⟨_, List.getElem?_eq_getElem hlt⟩
      obtain ⟨x, rfl, hcell⟩ := HN.out.below hBr hv
      have C := Lib.hid (RI.r_push v hS (by simp; omega))
      rw [show L.take k ++ [v] = L.take (k + 1) by rw [List.take_add_one, hv]; rfl] at C
      clear hS hv
      go_wp2_with fail
      refine C.out.mono ?_
      rintro e w4 ⟨rfl, hS4, ht4⟩
      have H4 := Lib.hid hS4
      have hB4 := hBr.trans (ht4.below hBr.size (by omega) (by omega))
      clear hS4 C ht4
      go_wp2
      go_roundw
      case rel => exact ⟨k + 1, by omega, by go_num, H4.out, hB4⟩
      case measure => simp [intOf]; omega
    · obtain rfl : k = L.length := by omega
      rw [List.take_length] at hS
      obtain ⟨v, hv⟩ : ∃ v, L[n]? = some v := ⟨_, List.getElem?_eq_getElem hnl⟩
      have C := Lib.hid (RI.r_cut n v hS hv)
      obtain ⟨x, rfl, hlx, hcx⟩ := HN.out n v hv
      have hbl : (x.add n).block = x.block := by unfold Addr.add; split <;> rfl
      have Hv := Lib.hid hv
      clear hS hv
      go_wp2_with fail
      refine C.out.mono ?_
      rintro e w4 ⟨rfl, hS4, ht4⟩
      have hB4 := hBr.trans (ht4.below hBr.size (by omega) (by omega))
      have hcx4 : w4.cell? (x.add n) = some (.int .i64 v) := by rw [hB4.cell (by rw [hbl]; exact hlx)]; exact hcx
      have C2 := Lib.hid (RI.r_len hS4)
      rw [List.length_eraseIdx_of_lt hnl] at C2
      have ez : ((L.length - 1 : Nat) : Int) = (L.length : Int) - 1 := by omega
      rw [ez] at C2
      rw [← restC_zero] at hS4
      have H4 := Lib.hid hS4
      clear C hS4 ht4 hBr ez HS hcx hB
      go_wp2_with fail
      refine C2.out.mono ?_
      rintro e w5 ⟨rfl, rfl⟩
      clear C2 hcx4
      go_wp2_with fail
      go_loopw [76] (fun i wq => ∃ k : Nat, k ≤ L.length ∧ i = .int .i64 k ∧ RI.Ring wq (b + 1) b L.length (restC L n k) ∧ Below w.heap.size w wq) (fun i _ => L.length - (intOf i).toNat)
      case atStart => exact ⟨0, by omega, rfl, H4.out, hB4⟩
      case round =>
        obtain ⟨k, hk, rfl, hS, hBq⟩ := hrel
        by_cases hlt : k < L.length
        · by_cases hkn : k = n
          · subst hkn
            rw [restC_same Hv.out] at hS
            have H5 := Lib.hid hS
            clear hS
            go_wp2
            go_roundw
            case rel => exact ⟨k + 1, by omega, by go_num, H5.out, hBq⟩
            case measure => simp [intOf]; omega
          · have hkb : ((k : Int) == (n : Int)) = false := beq_false_of_ne (by omega)
            obtain ⟨u, hu⟩ : ∃ u, L[k]? = some u := ⟨_, List.getElem?_eq_getElem hlt⟩
            obtain ⟨y, hy, hly, hcy⟩ := HN.out k u hu
            injection hy with hy
            subst hy
            have hbl' : (x.add k).block = x.block := by unfold Addr.add; split <;> rfl
            rw [restC_other hu hkn] at hS
            have C := Lib.hid (RI.r_pop u _ hS)
            clear hS hu
            go_wp2_with fail
            refine C.out.mono ?_
            rintro e w6 ⟨rfl, hS6, ht6⟩
            have hB6 := hBq.trans (ht6.below hBq.size (by omega) (by omega))
            have hc6 : w6.cell? (x.add k) = some (.int .i64 u) := by rw [hB6.cell (by rw [hbl']; exact hly)]; exact hcy
            have H6 := Lib.hid hS6
            clear C hS6 ht6 hcy
            go_wp2
            go_roundw
            case rel => exact ⟨k + 1, by omega, by go_num, H6.out, hB6⟩
            case measure => simp [intOf]; omega
        · obtain rfl : k = L.length := by omega
          rw [restC_end hnl] at hS
          have C2 := Lib.hid (RI.r_len hS)
          clear hS
          go_wp2_with fail
          refine C2.out.mono ?_
          rintro e w6 ⟨rfl, rfl⟩
          go_wp2
          go_ret
          exact ⟨rfl, hBq⟩
theorem walk_ringcuts (a : Option Addr) (len cap : Nat) (zs : List Int) (g : Int) (w : World) (h : IsRow .i64 w a len cap zs) (hg : (Lit.int .u8 g).wf = true) :
    Calls Try.prog 9 #[.slice a len cap, .int .u8 g] w fun e w' => e = .returned (.bool true) ∧ Below w.heap.size w w' := by
  obtain ⟨L, rfl, hN, hm⟩ := nums_of h
  obtain ⟨g0, g1⟩ := bounds_u8 hg
  obtain ⟨g, rfl⟩ := Int.eq_ofNat_of_zero_le g0
  by_cases hc : L.length = 0 ∨ 50 < L.length
  · exact cuts_none a _ cap _ w hc hm
  · exact cuts_main a cap g L w (by omega) (by omega) (by omega) hN
end Go.Proofs.Ytpeedbnboghafaa.C
