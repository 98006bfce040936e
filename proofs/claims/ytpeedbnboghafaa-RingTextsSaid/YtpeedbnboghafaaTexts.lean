/- The walk of RingTexts. -/
import Derived.Test.YtpeedbnboghafaaRingX
import Derived.Test.YtpeedbnboghafaaRingS
import Derived.Test.YtpeedbnboghafaaRingL
import Derived.Deep.Strs
namespace Go.Proofs.Ytpeedbnboghafaa.C
open Go.RowKit Go.ChangeShapes Go.WideShapes Go.Deep
set_option linter.unusedVariables false
theorem block_add' (a : Addr) (n : Nat) : (a.add n).block = a.block := by unfold Addr.add; split <;> rfl
/-- Texts that came in. -/
def Strs (w : World) (a : Option Addr) (L : List ByteArray) : Prop := ∀ (i : Nat) (v : ByteArray), L[i]? = some v → ∃ x, a = some x ∧ x.block < w.heap.size ∧ w.cell? (x.add i) = some (.string v)
theorem Strs.below {w w' : World} {a : Option Addr} {L : List ByteArray} (h : Strs w a L) (hb : Below w.heap.size w w') {i : Nat} {v : ByteArray} (hv : L[i]? = some v) : ∃ x, a = some x ∧ w'.cell? (x.add i) = some (.string v) := by
  obtain ⟨x, hx, hlt, hc⟩ := h i v hv
  exact ⟨x, hx, by rw [hb.cell (by rw [block_add']; exact hlt)]; exact hc⟩
section
variable {H : Type} {enc : TypeId × Value → H} {w : World} {base : Nat} {held : Bool}
theorem open_texts {a : Option Addr} {len cap : Nat} {d : DataW H} {p : List MemPlace} (h : DataW.Trod enc Try.prog w base (fun _ => true) held 22 (.slice a len cap) d p) :
    ∃ L : List ByteArray, L.length = len ∧ Strs w a L ∧ len ≤ cap ∧ cap ≤ 9223372036854775807 := by
  obtain ⟨fuel, hf⟩ := h
  rcases open_strs Try.underlying22 Try.underlying9 (by kernel_rfl) hf with ⟨hcs, _⟩ | ⟨a', len', cap', m', Sx, hcs, hb, hl, hm, hmm, hx, hi⟩
  · simp [Value.cells] at hcs
    obtain ⟨rfl, rfl, rfl⟩ := hcs
    exact ⟨[], rfl, fun i v h => by simp at h, by omega, by omega⟩
  · simp [Value.cells] at hcs
    obtain ⟨rfl, rfl, rfl⟩ := hcs
    refine ⟨(List.range len).map Sx, by simp, fun i v hv => ?_, hl, by simp only [maxLen] at hm; omega⟩
    have hil : i < len := by
      rcases Nat.lt_or_ge i len with h | h
      · exact h
      · rw [List.getElem?_eq_none (by simp; omega)] at hv; cases hv
    rw [List.getElem?_map, List.getElem?_range hil, Option.map_some] at hv
    injection hv with hv
    have := (hi i (by rw [hmm]; simp; omega)).1
    rw [hv] at this
    refine ⟨a', rfl, ?_, this⟩
    have := World.block_lt_of_cell? w _ this
    rwa [block_add'] at this
end
/-- The texts' beginnings, as slices. -/
def fronts (a : Option Addr) (cap k d : Nat) : List RL.Sl := (List.range' k d).map fun i => ⟨a, i, cap⟩
theorem fronts_length (a : Option Addr) (cap k d : Nat) : (fronts a cap k d).length = d := by simp [fronts]
theorem fronts_push (a : Option Addr) (cap d : Nat) : fronts a cap 0 d ++ [⟨a, d, cap⟩] = fronts a cap 0 (d + 1) := by
  unfold fronts
  rw [List.range'_concat]
  simp
theorem fronts_pop (a : Option Addr) (cap k d : Nat) : fronts a cap k (d + 1) = ⟨a, k, cap⟩ :: fronts a cap (k + 1) d := by
  unfold fronts
  rw [List.range'_succ]
  rfl

set_option maxHeartbeats 1000000 in
theorem texts_many (a : Option Addr) (len cap : Nat) (w : World) (h : 20 < len) (hm : len ≤ 9223372036854775807) :
    Calls Try.prog 3 #[.slice a len cap] w fun e w' => e = .returned (.bool true) ∧ Below w.heap.size w w' := by
  go_enter Try.func3, Try.ntmps3
  go_wp2_with fail
  refine (RI.awake _).mono ?_
  rintro e w1 ⟨rfl, hB1⟩
  go_wp2_with fail
  refine (RI.awake _).mono ?_
  rintro e w2 ⟨rfl, hB2⟩
  go_wp2
  go_ret
  exact ⟨rfl, hB1.trans (hB2.mono hB1.size)⟩

set_option maxRecDepth 100000 in
set_option maxHeartbeats 2000000 in
theorem texts_few (a : Option Addr) (cap : Nat) (L : List ByteArray) (w : World) (h : L.length ≤ 20) (hN : Strs w a L) (hcap : L.length ≤ cap) (hcm : cap ≤ 9223372036854775807) :
    Calls Try.prog 3 #[.slice a L.length cap] w fun e w' => e = .returned (.bool true) ∧ Below w.heap.size w w' := by
  have HN := Lib.hid hN
  have Ha := Lib.hid (RI.awake w)
  have hgt : decide (20 < L.length) = false := by simp; omega
  clear hN
  go_enter Try.func3, Try.ntmps3
  go_wp2_with fail
  refine Ha.out.mono ?_
  rintro e w1 ⟨rfl, hB1⟩
  have C1 : Hid (Calls Try.prog 11 #[.int .i64 20] w1 _) := RS.r_new 20 w1 (by omega) (by omega)
  go_wp2_with fail
  refine C1.out.mono ?_
  rintro e w2 ⟨rfl, hS, hB2⟩
  have hB := hB1.trans (hB2.mono hB1.size)
  have hpb : w.heap.size ≤ w1.heap.size := hB1.size
  clear C1
  generalize w1.heap.size = b at hS hpb
  obtain ⟨lt1, lt2⟩ := hS.lt
  have C2 : Hid (Calls Try.prog 12 #[.int .i64 20] w2 _) := RL.r_new 20 w2 (by omega) (by omega)
  have HS := Lib.hid hS
  clear hB1 hB2 hS
  go_wp2_with fail
  refine C2.out.mono ?_
  rintro e w3 ⟨rfl, hT, hB3⟩
  have hS3 := HS.out.below hB3
  have hB' := hB.trans (hB3.mono hB.size)
  clear C2 HS
  generalize w2.heap.size = c at hT lt1 lt2
  have HX : Hid (RS.Ring w3 (b + 1) b 20 [] ∧ RL.Ring w3 (c + 1) c 20 []) := ⟨hS3, hT⟩
  clear hB3 hT hS3 hB
  go_wp2_with fail
  go_loopw [35] (fun i wr => ∃ k : Nat, k ≤ L.length ∧ i = .int .i64 k ∧ RS.Ring wr (b + 1) b 20 (L.take k) ∧ RL.Ring wr (c + 1) c 20 (fronts a cap 0 k) ∧ Below w.heap.size w wr) (fun i _ => L.length - (intOf i).toNat)
  case atStart => exact ⟨0, by omega, rfl, by simpa using HX.out.1, HX.out.2, hB'⟩
  case round =>
    obtain ⟨k, hk, rfl, hS, hT, hBr⟩ := hrel
    by_cases hlt : k < L.length
    · obtain ⟨v, hv⟩ : ∃ v, L[k]? = some v := ⟨_, List.getElem?_eq_getElem hlt⟩
      obtain ⟨x, rfl, hcell⟩ := HN.out.below hBr hv
      have C := Lib.hid (RS.r_push v hS (by simp; omega))
      rw [show L.take k ++ [v] = L.take (k + 1) by rw [List.take_add_one, hv]; rfl] at C
      have HT := Lib.hid hT
      have hkc : k ≤ cap := by omega
      clear hS hv hT
      go_wp2_with fail
      refine C.out.mono ?_
      rintro e w4 ⟨rfl, hS4, ht4⟩
      have hT4 := HT.out.two ht4 (by omega) (by omega) (by omega) (by omega)
      have C2 : Hid (Calls Try.prog 14 #[.pointer (some ⟨c + 1, 0, none⟩), .slice (some x) k cap] w4 _) := RL.r_push ⟨some x, k, cap⟩ hT4 (by rw [fronts_length]; omega)
      rw [fronts_push] at C2
      have hB4 := hBr.trans (ht4.below hBr.size (by omega) (by omega))
      have H4 := Lib.hid hS4
      clear hS4 C ht4 hT4 HT
      go_wp2_with fail
      refine C2.out.mono ?_
      rintro e w5 ⟨rfl, hT5, ht5⟩
      have hS5 := H4.out.two ht5 (by omega) (by omega) (by omega) (by omega)
      have hB5 := hB4.trans (ht5.below hB4.size (by omega) (by omega))
      have H5 : Hid (RS.Ring w5 (b + 1) b 20 (L.take (k + 1)) ∧ RL.Ring w5 (c + 1) c 20 (fronts (some x) cap 0 (k + 1))) := ⟨hS5, hT5⟩
      clear C2 hT5 ht5 hS5 H4
      go_wp2
      go_roundw
      case rel => exact ⟨k + 1, by omega, by go_num, H5.out.1, H5.out.2, hB5⟩
      case measure => simp [intOf]; omega
    · obtain rfl : k = L.length := by omega
      rw [List.take_length] at hS
      have HX2 : Hid (RS.Ring wr (b + 1) b 20 L ∧ RL.Ring wr (c + 1) c 20 (fronts a cap 0 L.length)) := ⟨hS, hT⟩
      clear hS hT HX
      go_wp2_with fail
      obtain ⟨wo, rfl⟩ : ∃ wo : World, wo = wr := ⟨_, rfl⟩
      go_loopw [56] (fun i wq => ∃ k : Nat, k ≤ L.length ∧ i = .int .i64 k ∧ RS.Ring wq (b + 1) b 20 (L.drop k) ∧ RL.Ring wq (c + 1) c 20 (fronts a cap k (L.length - k)) ∧ Below w.heap.size w wq) (fun i _ => L.length - (intOf i).toNat)
      case atStart => exact ⟨0, by omega, rfl, by simpa using HX2.out.1, HX2.out.2, hBr⟩
      case round =>
        obtain ⟨k, hk, rfl, hS, hT, hBq⟩ := hrel
        by_cases hlt : k < L.length
        · obtain ⟨v, hv⟩ : ∃ v, L[k]? = some v := ⟨_, List.getElem?_eq_getElem hlt⟩
          obtain ⟨x, rfl, hcell⟩ := HN.out.below hBq hv
          have hd : L.drop k = v :: L.drop (k + 1) := by
            rw [List.drop_eq_getElem_cons hlt]
            congr 1
            rw [List.getElem?_eq_getElem hlt] at hv
            injection hv
          rw [hd] at hS
          rw [show L.length - k = (L.length - (k + 1)) + 1 by omega, fronts_pop] at hT
          have C := Lib.hid (RS.r_pop v _ hS)
          have HT := Lib.hid hT
          have Hc := Lib.hid hcell
          clear hS hv hT hd hcell
          go_wp2_with fail
          refine C.out.mono ?_
          rintro e w4 ⟨rfl, hS4, ht4⟩
          have hT4 := HT.out.two ht4 (by omega) (by omega) (by omega) (by omega)
          have C2 : Hid (Calls Try.prog 16 #[.pointer (some ⟨c + 1, 0, none⟩)] w4 fun e w' => e = .returned (.tuple #[.slice (some x) k cap, .bool true]) ∧ RL.Ring w' (c + 1) c 20 (fronts (some x) cap (k + 1) (L.length - (k + 1))) ∧ Two (c + 1) c w4 w') := RL.r_pop ⟨some x, k, cap⟩ _ hT4
          have hB4 := hBq.trans (ht4.below hBq.size (by omega) (by omega))
          have H4 := Lib.hid hS4
          clear hS4 C ht4 hT4 HT
          go_wp2_with fail
          refine C2.out.mono ?_
          rintro e w5 ⟨rfl, hT5, ht5⟩
          have hS5 := H4.out.two ht5 (by omega) (by omega) (by omega) (by omega)
          have hB5 := hB4.trans (ht5.below hB4.size (by omega) (by omega))
          have hcell : w5.cell? (x.add k) = some (.string v) := by
            have h1 := Hc.out
            have h2 := hB5.size
            obtain ⟨x', hx', hlt', hc'⟩ := HN.out k v (by
              obtain ⟨u, hu⟩ : ∃ u, L[k]? = some u := ⟨_, List.getElem?_eq_getElem hlt⟩
              obtain ⟨y, hy, hyc⟩ := HN.out.below hBq hu
              injection hy with hy
              subst hy
              rw [h1] at hyc
              injection hyc with hyc
              injection hyc with hyc
              rw [hu, hyc])
            injection hx' with hx'
            subst hx'
            rw [hB5.cell (by rw [block_add']; exact hlt')]
            exact hc'
          have H5 : Hid (RS.Ring w5 (b + 1) b 20 (L.drop (k + 1)) ∧ RL.Ring w5 (c + 1) c 20 (fronts (some x) cap (k + 1) (L.length - (k + 1)))) := ⟨hS5, hT5⟩
          clear C2 hT5 ht5 hS5 H4 Hc
          go_wp2
          go_roundw
          case rel => exact ⟨k + 1, by omega, by go_num, H5.out.1, H5.out.2, hB5⟩
          case measure => simp [intOf]; omega
        · rw [List.drop_of_length_le (by omega)] at hS
          rw [show L.length - k = 0 by omega] at hT
          have C := Lib.hid (RS.r_pop_none hS)
          have C2 := Lib.hid (RL.r_pop_none hT)
          clear hS hT HX2
          go_wp2_with fail
          refine C.out.mono ?_
          rintro e w4 ⟨rfl, rfl⟩
          go_wp2_with fail
          refine C2.out.mono ?_
          rintro e w5 ⟨rfl, rfl⟩
          go_wp2
          go_ret
          exact ⟨rfl, hBq⟩
theorem walk_ringtexts (a : Option Addr) (len cap : Nat) (w : World) (h : ∃ L : List ByteArray, L.length = len ∧ Strs w a L ∧ len ≤ cap ∧ cap ≤ 9223372036854775807) :
    Calls Try.prog 3 #[.slice a len cap] w fun e w' => e = .returned (.bool true) ∧ Below w.heap.size w w' := by
  obtain ⟨L, rfl, hN, hm, hm2⟩ := h
  rcases Nat.lt_or_ge 20 L.length with h | h
  · exact texts_many a _ cap w h (by omega)
  · exact texts_few a cap L w h hN hm hm2
end Go.Proofs.Ytpeedbnboghafaa.C
