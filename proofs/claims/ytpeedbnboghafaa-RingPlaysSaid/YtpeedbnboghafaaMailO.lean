/- The walk of MailOrder. -/
import Derived.Test.YtpeedbnboghafaaMailF
import Derived.Deep.QuietTactic
import Derived.BigQuiet
namespace Go.Proofs.Ytpeedbnboghafaa.C
open Go.RowKit
set_option linter.unusedVariables false

/-- Numbers that came in, told by their list. -/
def Nums (w : World) (a : Option Addr) (L : List Int) : Prop := ∀ (i : Nat) (v : Int), L[i]? = some v → ∃ x, a = some x ∧ x.block < w.heap.size ∧ w.cell? (x.add i) = some (.int .i64 v)
theorem nums_of {w : World} {a : Option Addr} {len cap : Nat} {zs : List Int} (h : IsRow .i64 w a len cap zs) : ∃ L : List Int, L.length = len ∧ Nums w a L ∧ len ≤ 9223372036854775807 := by
  rcases h with ⟨rfl, rfl, rfl, rfl⟩ | ⟨x, rfl, hl, hc, hz, hcell, _⟩
  · exact ⟨[], rfl, fun i v h => by simp at h, by omega⟩
  · refine ⟨zs.take len, by simp; omega, fun i v hv => ?_, by simp only [maxLen] at hc; omega⟩
    have hi : i < len := by
      rcases Nat.lt_or_ge i len with h | h
      · exact h
      · rw [List.getElem?_eq_none (by simp; omega)] at hv; cases hv
    rw [List.getElem?_take_of_lt hi] at hv
    have hz0 : i < zs.length := by omega
    have hc0 := hcell i hz0
    have hb := World.block_lt_of_cell? w _ hc0
    have hbl : (x.add i).block = x.block := by unfold Addr.add; split <;> rfl
    rw [List.getD_eq_getElem?_getD, hv] at hc0
    exact ⟨x, rfl, by rw [← hbl]; exact hb, hc0⟩
theorem Nums.below {w w' : World} {a : Option Addr} {L : List Int} (h : Nums w a L) (hb : Below w.heap.size w w') {i : Nat} {v : Int} (hv : L[i]? = some v) : ∃ x, a = some x ∧ w'.cell? (x.add i) = some (.int .i64 v) := by
  obtain ⟨x, hx, hlt, hc⟩ := h i v hv
  have hbl : (x.add i).block = x.block := by unfold Addr.add; split <;> rfl
  exact ⟨x, hx, by rw [hb.cell (by rw [hbl]; exact hlt)]; exact hc⟩
def vlen : Value → Nat
  | .slice _ n _ => n
  | _ => 0
theorem own_slice {w : World} {base n : Nat} {e : TypeId} {size : Nat} {v : Value} {xs : List Value} (h : w.ownsRow base e size v n xs) : ∃ A c, v = .slice A n c := by
  rcases h.2 with ⟨rfl, rfl⟩ | ⟨g, cap, cur, rfl, _⟩
  · exact ⟨none, 0, rfl⟩
  · exact ⟨_, cap, rfl⟩
theorem own_two {w w' : World} {base n : Nat} {e : TypeId} {size : Nat} {v : Value} {xs : List Value} {g h : Nat} (o : w.ownsRow base e size v n xs) (p : Two g h w w') (h1 : g < base) (h2 : h < base) : w'.ownsRow base e size v n xs := by
  refine ⟨o.1, ?_⟩
  rcases o.2 with h0 | ⟨q, cp, cur, hv, hg, hh, r⟩
  · exact .inl h0
  · exact .inr ⟨q, cp, cur, hv, hg, (p.block q (Array.getElem?_eq_some_iff.1 hh).1 (by omega) (by omega)).trans hh, r⟩
theorem own_ge {w : World} {base n : Nat} {e : TypeId} {size : Nat} {v : Value} {xs : List Value} (o : w.ownsRow base e size v n xs) : ∀ k, v.ownBlock = some k → base ≤ k := fun k hk => (o.lt k hk).1

set_option maxHeartbeats 1000000 in
theorem order_many (a : Option Addr) (len cap : Nat) (mo : Int) (w : World) (h : 100 < len) (hm : len ≤ 9223372036854775807) :
    Calls Try.prog 6 #[.slice a len cap, .int .u8 mo] w fun e w' => e = .returned (.bool true) ∧ Below w.heap.size w w' := by
  go_enter Try.func6, Try.ntmps6
  go_wp2_with fail
  refine (mawake _).mono ?_
  rintro e w1 ⟨rfl, hB1⟩
  go_wp2_with fail
  refine (mawake _).mono ?_
  rintro e w2 ⟨rfl, hB2⟩
  go_wp2
  go_ret
  exact ⟨rfl, hB1.trans (hB2.mono hB1.size)⟩

set_option maxRecDepth 100000 in
set_option maxHeartbeats 2000000 in
theorem order_few (a : Option Addr) (cap mo : Nat) (L : List Int) (w : World) (hmo : mo ≤ 255) (h : L.length ≤ 100) (hN : Nums w a L) :
    Calls Try.prog 6 #[.slice a L.length cap, .int .u8 mo] w fun e w' => e = .returned (.bool true) ∧ Below w.heap.size w w' := by
  obtain ⟨i0, hi, hz0, hz1, hz2⟩ := info_parts int_info
  have Hi := Lib.hid hi
  have Hz0 := Lib.hid hz0
  have Hz1 := Lib.hid hz1
  have Hz2 := Lib.hid hz2
  have HN := Lib.hid hN
  have Ha := Lib.hid (mawake w)
  have hgt : decide (100 < L.length) = false := by simp; omega
  clear hi hz0 hz1 hz2 hN
  go_enter Try.func6, Try.ntmps6
  go_wp2_with fail
  refine Ha.out.mono ?_
  rintro e w1 ⟨rfl, hB1⟩
  have HNEW : Hid (Calls Try.prog 22 #[.int .i64 100] w1 _) := b_new 100 w1 (by omega) (by omega)
  clear Ha
  go_wp2_with fail
  refine HNEW.out.mono ?_
  rintro e w2 ⟨rfl, hbox, hB2⟩
  have hB := hB1.trans (hB2.mono hB1.size)
  have hpb : w.heap.size ≤ w1.heap.size := hB1.size
  clear HNEW
  generalize w1.heap.size = c at hbox hpb
  have HX := Lib.hid hbox
  clear hB1 hB2 hbox
  go_wp2_with fail
  go_loopw [26] (fun i wr => ∃ k : Nat, k ≤ L.length ∧ i = .int .i64 k ∧ MBox wr (c + 1) c 100 (L.take k) ∧ Below w.heap.size w wr) (fun i _ => L.length - (intOf i).toNat)
  case atStart => exact ⟨0, by omega, rfl, by simpa using HX.out, hB⟩
  case round =>
    obtain ⟨k, hk, rfl, hbox, hB'⟩ := hrel
    by_cases hlt : k < L.length
    · obtain ⟨v, hv⟩ : ∃ v, L[k]? = some v := ⟨_, List.getElem?_eq_getElem hlt⟩
      obtain ⟨x, rfl, hcell⟩ := HN.out.below hB' hv
      have C := Lib.hid (b_put_room v hbox (by simp; omega))
      rw [show L.take k ++ [v] = L.take (k + 1) by rw [List.take_add_one, hv]; rfl] at C
      clear hbox hv
      go_wp2_with fail
      refine C.out.mono ?_
      rintro e w4 ⟨rfl, hb4, ht4⟩
      have H4 := Lib.hid hb4
      have hB4 := hB'.trans (ht4.below hB'.size (by omega) (by omega))
      clear hb4 C ht4
      go_wp2
      go_roundw
      case rel => exact ⟨k + 1, by omega, by go_num, H4.out, hB4⟩
      case measure => simp [intOf]; omega
    · rw [List.take_of_length_le (by omega)] at hbox
      obtain ⟨lt1, lt2⟩ := hbox.lt
      have HX2 := Lib.hid hbox
      clear hbox HX hB
      go_wp2_with fail
      obtain ⟨wo, rfl⟩ : ∃ wo : World, wo = wr := ⟨_, rfl⟩
      go_loopw [8] (fun v wq => ∃ j : Nat, j ≤ L.length ∧ wq.ownsRow wo.heap.size 3 1 v j (ints (L.take j)) ∧ MBox wq (c + 1) c 100 (L.drop j) ∧ Below w.heap.size w wq ∧ wo.heap.size ≤ wq.heap.size) (fun v _ => L.length - vlen v)
      case atStart => exact ⟨0, by omega, World.ownsRow_nil _ _ _ _, HX2.out, hB', Nat.le_refl _⟩
      case round =>
        obtain ⟨j, hj, hown, hbox, hBq, hsz⟩ := hrel
        obtain ⟨A8, c8, rfl⟩ := own_slice hown
        have C := Lib.hid (b_len hbox)
        rw [List.length_drop] at C
        by_cases hlt' : j < L.length
        · have D := Lib.hid (drain_nat (1 + mo) hbox (by simp; omega) (by omega))
          have hcast : ((1 + mo : Nat) : Int) = 1 + (mo : Int) := by omega
          rw [hcast] at D
          have hpos : decide (0 < L.length - j) = true := by simp; omega
          obtain ⟨n, hn⟩ : ∃ n, ((L.drop j).take (1 + mo)).length = n := ⟨_, rfl⟩
          have hn1 : 1 ≤ n ∧ n ≤ L.length - j := by rw [← hn]; simp; omega
          obtain ⟨hn1, hn2⟩ := hn1
          have HE : Hid ((L.drop j).take (1 + mo) = (L.drop j).take n ∧ (L.drop j).drop (1 + mo) = L.drop (j + n)) := by
            rw [List.drop_drop]
            rw [List.length_take, List.length_drop] at hn
            rcases Nat.le_total (1 + mo) (L.length - j) with h | h
            · rw [Nat.min_eq_left h] at hn
              rw [← hn]
              exact ⟨rfl, rfl⟩
            · rw [Nat.min_eq_right h] at hn
              have a1 : (L.drop j).take (1 + mo) = L.drop j := List.take_of_length_le (by simp; omega)
              have a2 : (L.drop j).take n = L.drop j := List.take_of_length_le (by simp; omega)
              have a3 : L.drop (j + (1 + mo)) = [] := List.drop_of_length_le (by omega)
              have a4 : L.drop (j + n) = [] := List.drop_of_length_le (by omega)
              rw [a1, a2, a3, a4]
              exact ⟨rfl, rfl⟩
          rw [hn, HE.out.1, HE.out.2] at D
          have HTJ : Hid (ints (L.take j) ++ ints ((L.drop j).take n) = ints (L.take (j + n))) := by
            show _ = _
            rw [List.take_add]
            simp [ints]
          clear hn hbox hcast
          go_wp2_with fail
          refine C.out.mono ?_
          rintro e w5 ⟨rfl, rfl⟩
          go_wp2_with fail
          refine D.out.mono ?_
          rintro e w6 ⟨v, rfl, hownv, hbox6, ht6⟩
          obtain ⟨g, cpv, rfl, hg1, hg2⟩ := hownv.form (by omega)
          have hown6 := own_two hown ht6 (by omega) (by omega)
          have hB6 := hBq.trans (ht6.below hBq.size (by omega) (by omega))
          have hsz6 : wo.heap.size ≤ w6.heap.size := Nat.le_trans hsz ht6.size
          have HV : Hid ((ints ((L.drop j).take n)).length = n ∧ ∀ i u, (ints ((L.drop j).take n))[i]? = some u → w6.cell? ((⟨g, 0, none⟩ : Addr).add i) = some u) := ⟨by simpa using hownv.1, fun i u hu => hownv.cells (g := g) rfl i u hu⟩
          have hlt8 : c + 1 < wo.heap.size ∧ c < wo.heap.size := ⟨lt1, lt2⟩
          have Hge := Lib.hid (own_ge hown6)
          have H6 := Lib.hid hbox6
          clear D hownv hown hbox6 ht6 hBq
          go_wp2_with (at_builtin; go_must (refine wpList_append_own_at _ rfl (.tmp 40) (.tmp 45) 49 rfl wo.heap.size 3 i0 (.int .i64 0) 1 8 Try.underlying49 Hi.out Hz0.out Hz1.out Hz2.out rfl (by omega) (.slice A8 j c8) j (ints (L.take j)) rfl hown6 ⟨g, 0, none⟩ n cpv (ints ((L.drop j).take n)) rfl ?_ ?_ ?_ ?_ ?_ ?_ ?_))
          · rw [HV.out.1, Nat.mul_one]
          · exact HV.out.2
          · intro u hu
            obtain ⟨z, _, rfl⟩ := List.mem_map.1 hu
            rfl
          · simp only [maxLen]; omega
          · omega
          · exact hsz6
          · intro v7 w7 hown7 hg7 _ hat
            rw [HTJ.out] at hown7
            have hbox7 : MBox w7 (c + 1) c 100 (L.drop (j + n)) := MBox.grown H6.out hg7 (fun e => by have := Hge.out _ e.symm; omega) (fun e => by have := Hge.out _ e.symm; omega)
            have hB7 : Below w.heap.size w w7 := hB6.grown hg7 hB6.size (fun q hq => by have := Hge.out q hq; have := hB'.size; omega)
            have hsz7 : wo.heap.size ≤ w7.heap.size := Nat.le_trans hsz6 hg7.size
            obtain ⟨A9, c9, rfl⟩ := own_slice hown7
            have Hge7 := Lib.hid (own_ge hown7)
            clear hg7 hat hB6 HV HTJ H6 HE C
            cases hd : L.drop (j + n) with
            | nil =>
              have hjn : j + n = L.length := by
                have := congrArg List.length hd
                simp at this
                omega
              have HJN := Lib.hid hjn
              clear hjn
              rw [hd] at hbox7
              have T := Lib.hid (b_take_none hbox7)
              have H7 := Lib.hid hbox7
              have HD := Lib.hid hd
              clear hbox7 hd
              go_wp2_with fail
              refine T.out.mono ?_
              rintro e w8 ⟨rfl, rfl⟩
              have hm1 : L.length - (j + n) < L.length - j := by omega
              go_wp2
              go_roundw
              case rel => exact ⟨j + n, by omega, hown7, by rw [HD.out]; exact H7.out, hB7, hsz7⟩
              case measure => simpa [vlen] using hm1
            | cons x t =>
              obtain ⟨e1, e2, hjn⟩ := take_get L (j + n) x t hd
              rw [hd] at hbox7
              have T := Lib.hid (b_take_some x t hbox7)
              have E1 := Lib.hid e1
              have E2 := Lib.hid e2
              clear hbox7 hd e1 e2
              go_wp2_with fail
              refine T.out.mono ?_
              rintro e w8 ⟨rfl, hbox8, ht8⟩
              have hown8 := own_two hown7 ht8 (by omega) (by omega)
              have hB8 := hB7.trans (ht8.below hB7.size (by omega) (by omega))
              have hsz8 : wo.heap.size ≤ w8.heap.size := Nat.le_trans hsz7 ht8.size
              have H8 := Lib.hid hbox8
              clear T hbox8 ht8 hB7 hown7
              go_wp2_with (at_builtin; go_must (refine wpList_append_own_at _ rfl (.tmp 53) (.tmp 55) 49 rfl wo.heap.size 3 i0 (.int .i64 0) 1 8 Try.underlying49 Hi.out Hz0.out Hz1.out Hz2.out rfl (by omega) (.slice A9 (j + n) c9) (j + n) (ints (L.take (j + n))) rfl (hown8.alloc _) ⟨w8.heap.size, 0, none⟩ 1 1 [.int .i64 x] rfl rfl ?_ ?_ ?_ ?_ ?_ ?_))
              · intro q u hu
                cases q with
                | zero =>
                  simp at hu
                  subst hu
                  simp [Addr.add]
                | succ q => simp at hu
              · simp [Value.oneCell']
              · simp only [maxLen]; omega
              · omega
              · simp; omega
              · intro v9 w9 hown9 hg9 _ hat
                have hbox9 : MBox w9 (c + 1) c 100 t := MBox.grown (MBox.below H8.out ((Below.refl _ _).alloc (Nat.le_refl _) _)) hg9 (fun e => by have := Hge7.out _ e.symm; omega) (fun e => by have := Hge7.out _ e.symm; omega)
                have hB9 : Below w.heap.size w w9 := (hB8.alloc hB8.size _).grown hg9 (by have := hB8.size; simp; omega) (fun q hq => by have := Hge7.out q hq; have := hB'.size; omega)
                have hsz9 : wo.heap.size ≤ w9.heap.size := Nat.le_trans hsz8 (Nat.le_trans (by simp) hg9.size)
                rw [show ints (L.take (j + n)) ++ [Value.int .i64 x] = ints (L.take (j + n + 1)) by rw [E1.out]; simp [ints]] at hown9
                obtain ⟨A10, c10, rfl⟩ := own_slice hown9
                have hm1 : L.length - (j + n + 1) < L.length - j := by omega
                clear hg9 hat hB8 H8 E1
                go_wp2
                go_roundw
                case rel => exact ⟨j + n + 1, by omega, hown9, by rw [E2.out]; exact hbox9, hB9, hsz9⟩
                case measure => simpa [vlen] using hm1
        · have hpos : decide (0 < L.length - j) = false := by simp; omega
          rw [show L.length - j = 0 by omega] at C
          obtain rfl : j = L.length := by omega
          rw [List.take_length] at hown
          have HO : Hid (∀ (k : Nat) (v : Int), L[k]? = some v → ∃ g, A8 = some ⟨g, 0, none⟩ ∧ wr.cell? ⟨g, k, none⟩ = some (.int .i64 v)) := by
            intro k v hv
            have hk : k < L.length := by
              rcases Nat.lt_or_ge k L.length with h | h
              · exact h
              · rw [List.getElem?_eq_none h] at hv; cases hv
            obtain ⟨g, cp, hs, _, _⟩ := hown.form (by omega)
            injection hs with hs1 hs2 hs3
            subst hs1 hs3
            refine ⟨g, rfl, ?_⟩
            rw [hown.cellAt k (by omega), ints_at, hv]
            rfl
          clear hown hbox
          go_wp2_with fail
          refine C.out.mono ?_
          rintro e w5 ⟨rfl, rfl⟩
          go_wp2_with fail
          go_loopw [64] (fun i wz => ∃ k : Nat, k ≤ L.length ∧ i = .int .i64 k ∧ ∃ q, wz = w5.drewN q) (fun i _ => L.length - (intOf i).toNat)
          case atStart => exact ⟨0, by omega, rfl, 0, rfl⟩
          case round =>
            obtain ⟨k, hk, rfl, q, rfl⟩ := hrel
            by_cases hlt : k < L.length
            · obtain ⟨v, hv⟩ : ∃ v, L[k]? = some v := ⟨_, List.getElem?_eq_getElem hlt⟩
              obtain ⟨x, rfl, hc1⟩ := HN.out.below hBq hv
              obtain ⟨g, rfl, hc2⟩ := HO.out k v hv
              clear hv
              go_wp2_with fail
              go_quiet (fail)
              go_wp2
              go_roundw
              case rel => exact ⟨k + 1, by omega, by go_num, _, rfl⟩
              case measure => simp [intOf]; omega
            · go_wp2
              go_ret
              exact ⟨rfl, below_drewN hBq q⟩
theorem walk_mailorder (a : Option Addr) (len cap : Nat) (zs : List Int) (mo : Int) (w : World) (h : IsRow .i64 w a len cap zs) (hmo : (Lit.int .u8 mo).wf = true) :
    Calls Try.prog 6 #[.slice a len cap, .int .u8 mo] w fun e w' => e = .returned (.bool true) ∧ Below w.heap.size w w' := by
  obtain ⟨L, rfl, hN, hm⟩ := nums_of h
  obtain ⟨m0, m1⟩ := bounds_u8 hmo
  obtain ⟨mo, rfl⟩ := Int.eq_ofNat_of_zero_le m0
  rcases Nat.lt_or_ge 100 L.length with h | h
  · exact order_many a _ cap _ w h hm
  · exact order_few a cap mo L w (by omega) h hN
end Go.Proofs.Ytpeedbnboghafaa.C
