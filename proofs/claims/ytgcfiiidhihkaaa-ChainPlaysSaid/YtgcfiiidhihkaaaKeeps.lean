/- The walk of SlabKeeps. -/
import Derived.Test.YtgcfiiidhihkaaaSlabX
import Derived.Test.YtgcfiiidhihkaaaArgs
import Derived.Maps.AppendAt
import Derived.Deep.AppendLies
import Derived.Deep.DeepMust
namespace Go.Proofs.Ytgcfiiidhihkaaa.C
open Go.RowKit
set_option linter.unusedVariables false

theorem int_info : (Try.prog.info? 3).map (fun i => (i.zero, i.size, i.bytes)) = some (some (.int .i64 0), 1, 8) := by kernel_rfl
/-- A list of numbers as values. -/
def ints (l : List Int) : List Value := l.map (Value.int .i64 ·)
theorem ints_length (l : List Int) : (ints l).length = l.length := by simp [ints]
theorem ints_at (l : List Int) (i : Nat) : (ints l)[i]? = l[i]?.map (Value.int .i64 ·) := by simp [ints]
def vlen : Value → Nat
  | .slice _ n _ => n
  | _ => 0
theorem own_slice {w : World} {base n : Nat} {e : TypeId} {size : Nat} {v : Value} {xs : List Value} (h : w.ownsRow base e size v n xs) : ∃ A c, v = .slice A n c := by
  rcases h.2 with ⟨rfl, rfl⟩ | ⟨g, cap, cur, rfl, _⟩
  · exact ⟨none, 0, rfl⟩
  · exact ⟨_, cap, rfl⟩
theorem own_two {w w' : World} {base n : Nat} {e : TypeId} {size : Nat} {v : Value} {xs : List Value} {g h : Nat} (o : w.ownsRow base e size v n xs) (p : Two g h w w') (h1 : g < base) (h2 : h < base) : w'.ownsRow base e size v n xs := by
  refine ⟨o.1, ?_⟩
  rcases o.2 with h0 | ⟨q, cp, cur, hv, hg, hh, r⟩
  · exact .inl h0
  · exact .inr ⟨q, cp, cur, hv, hg, (p.block q (Array.getElem?_eq_some_iff.1 hh).1 (by omega) (by omega)).trans hh, r⟩
theorem own_ge {w : World} {base n : Nat} {e : TypeId} {size : Nat} {v : Value} {xs : List Value} (o : w.ownsRow base e size v n xs) : ∀ k, v.ownBlock = some k → base ≤ k := fun k hk => (o.lt k hk).1
/-- 0, 1, .. below k, as numbers. -/
def upto (k : Nat) : List Int := (List.range k).map fun (i : Nat) => (i : Int)
theorem upto_succ (k : Nat) : upto (k + 1) = upto k ++ [(k : Int)] := by simp [upto, List.range_succ]
theorem upto_at {k i : Nat} (h : i < k) : (upto k)[i]? = some (i : Int) := by simp [upto, h]
theorem Two.cell' {g h : Nat} {w w' : World} (p : Two g h w w') {a : Addr} {v : Value} (hv : w.cell? a = some v) (h1 : a.block ≠ g) (h2 : a.block ≠ h) : w'.cell? a = some v := by
  rw [World.cell?_of_block (p.block a.block (World.block_lt_of_cell? w a hv) h1 h2)]
  exact hv
theorem SI.Slab.grown {w w' : World} {pb b : Nat} {A : List (Option Int)} {fl : List Nat} {row : Option Nat} (h : SI.Slab w pb b A fl) (p : w.grownBy w' row) (h1 : some pb ≠ row) (h2 : some b ≠ row) : SI.Slab w' pb b A fl := by
  obtain ⟨first, free, l, hS, hI, hA, hl⟩ := h
  exact ⟨first, free, l, ⟨(p.block pb (Array.getElem?_eq_some_iff.1 hS.ptr).1 h1).trans hS.ptr, (p.block b (Array.getElem?_eq_some_iff.1 hS.row).1 h2).trans hS.row⟩, hI, hA, hl⟩

/-- What the places have when k things are in. -/
def inA (L : List Int) (k : Nat) : List (Option Int) := (List.range L.length).map fun i => if i < k then L[i]? else none
theorem inA_length (L : List Int) (k : Nat) : (inA L k).length = L.length := by simp [inA]
theorem inA_zero (L : List Int) : List.replicate L.length none = inA L 0 := by
  apply List.ext_getElem?
  intro i
  by_cases h : i < L.length <;> simp [inA, h]
theorem inA_step (L : List Int) (k : Nat) (v : Int) (h : L[k]? = some v) : (inA L k).set k (some v) = inA L (k + 1) := by
  have hk := lt_of_some h
  apply List.ext_getElem?
  intro i
  by_cases e : i = k
  · subst e
    rw [List.getElem?_set_self (by rw [inA_length]; exact hk)]
    simp only [inA, List.getElem?_map, List.getElem?_range hk, Option.map_some]
    rw [if_pos (by omega), h]
  · rw [List.getElem?_set_ne (by omega)]
    by_cases hi : i < L.length
    · simp only [inA, List.getElem?_map, List.getElem?_range hi, Option.map_some]
      congr 1
      by_cases h1 : i < k
      · rw [if_pos h1, if_pos (by omega)]
      · rw [if_neg h1, if_neg (by omega)]
    · rw [List.getElem?_eq_none (by rw [inA_length]; omega), List.getElem?_eq_none (by rw [inA_length]; omega)]
theorem inA_at {L : List Int} {i : Nat} {o : Option Int} (h : (inA L L.length)[i]? = some o) : o = L[i]? := by
  have hi := lt_of_some h
  rw [inA_length] at hi
  simp [inA, hi] at h
  rw [← h]
  simp [hi]

set_option maxHeartbeats 1000000 in
theorem keeps_none (a bb : Option Addr) (len lb cap cb : Nat) (w : World) (h : len = 0 ∨ 60 < len ∨ lb < len) (hm : len ≤ 9223372036854775807) (hm2 : lb ≤ 9223372036854775807) :
    Calls Try.prog 4 #[.slice a len cap, .slice bb lb cb] w fun e w' => e = .returned (.bool true) ∧ Below w.heap.size w w' := by
  have Ha := Lib.hid SI.awake
  by_cases h0 : len = 0
  · subst h0
    go_enter Try.func4, Try.ntmps4
    go_wp2_with fail
    refine (Ha.out _).mono ?_
    rintro e w1 ⟨rfl, hB1⟩
    go_wp2_with fail
    refine (Ha.out _).mono ?_
    rintro e w2 ⟨rfl, hB2⟩
    go_wp2
    go_ret
    exact ⟨rfl, hB1.trans (hB2.mono hB1.size)⟩
  · have e0 : ((len : Int) = 0) = False := by simp; omega
    have b0 : ((len : Int) == 0) = false := beq_false_of_ne (by omega)
    by_cases h1 : 60 < len
    · go_enter Try.func4, Try.ntmps4
      go_wp2_with fail
      refine (Ha.out _).mono ?_
      rintro e w1 ⟨rfl, hB1⟩
      go_wp2_with fail
      refine (Ha.out _).mono ?_
      rintro e w2 ⟨rfl, hB2⟩
      go_wp2
      go_ret
      exact ⟨rfl, hB1.trans (hB2.mono hB1.size)⟩
    · have h2 : lb < len := by omega
      have d1 : decide (60 < len) = false := by simp; omega
      go_enter Try.func4, Try.ntmps4
      go_wp2_with fail
      refine (Ha.out _).mono ?_
      rintro e w1 ⟨rfl, hB1⟩
      go_wp2_with fail
      refine (Ha.out _).mono ?_
      rintro e w2 ⟨rfl, hB2⟩
      go_wp2
      go_ret
      exact ⟨rfl, hB1.trans (hB2.mono hB1.size)⟩

set_option maxRecDepth 100000 in
set_option maxHeartbeats 2000000 in
theorem keeps_main (a bb : Option Addr) (L : List Int) (G : List Bool) (cap cb : Nat) (w : World) (h0 : 0 < L.length) (h1 : L.length ≤ 60) (h2 : L.length ≤ G.length) (hG9 : G.length ≤ 9223372036854775807) (hN : Nums .i64 w a L) (hG : Bools w bb G) :
    Calls Try.prog 4 #[.slice a L.length cap, .slice bb G.length cb] w fun e w' => e = .returned (.bool true) ∧ Below w.heap.size w w' := by
  obtain ⟨i0, hi, hz0, hz1, hz2⟩ := info_parts int_info
  have Hi := Lib.hid hi
  have Hz0 := Lib.hid hz0
  have Hz1 := Lib.hid hz1
  have Hz2 := Lib.hid hz2
  have HN := Lib.hid hN
  have HG := Lib.hid hG
  have Ha := Lib.hid (SI.awake w)
  have b0 : ((L.length : Int) == 0) = false := beq_false_of_ne (by omega)
  have d1 : decide (60 < L.length) = false := by simp; omega
  have d2 : decide (G.length < L.length) = false := by simp; omega
  clear hi hz0 hz1 hz2 hN hG
  go_enter Try.func4, Try.ntmps4
  go_wp2_with fail
  refine Ha.out.mono ?_
  rintro e w1 ⟨rfl, hB1⟩
  have HNEW := Lib.hid (SI.s_new L.length w1 (by omega) (by omega))
  rw [inA_zero] at HNEW
  clear Ha
  go_wp2_with fail
  refine HNEW.out.mono ?_
  rintro e w2 ⟨rfl, hS, hB2⟩
  have hB := hB1.trans (hB2.mono hB1.size)
  have hpb : w.heap.size ≤ w1.heap.size := hB1.size
  clear HNEW
  generalize w1.heap.size = b at hS hpb
  obtain ⟨lt1, lt2⟩ := hS.lt
  have HS := Lib.hid hS
  clear hB1 hB2 hS
  go_wp2_with fail
  go_loopw [44, 7] (fun c v wr => ∃ k : Nat, k ≤ L.length ∧ c = .int .i64 k ∧ wr.ownsRow w2.heap.size 3 1 v k (ints (upto k)) ∧ SI.Slab wr (b + 1) b (inA L k) (List.range' k (L.length - k)) ∧ Below w.heap.size w wr ∧ w2.heap.size ≤ wr.heap.size)
    (fun c _ _ => L.length - (intOf c).toNat)
  case atStart => exact ⟨0, by omega, rfl, World.ownsRow_nil _ _ _ _, HS.out, hB, Nat.le_refl _⟩
  case round =>
    obtain ⟨k, hk, rfl, hown, hS, hBr, hsz⟩ := hrel
    obtain ⟨A8, c8, rfl⟩ := own_slice hown
    by_cases hlt : k < L.length
    · obtain ⟨v, hv⟩ : ∃ v, L[k]? = some v := ⟨_, List.getElem?_eq_getElem hlt⟩
      obtain ⟨x, rfl, hcell, hwf⟩ := HN.out.below hBr hv
      obtain ⟨v0, v1⟩ := bounds_i64 hwf
      rw [show L.length - k = (L.length - (k + 1)) + 1 by omega, List.range'_succ] at hS
      have C := Lib.hid (SI.s_take_yes k _ v hS)
      rw [inA_step L k v hv] at C
      have HO := Lib.hid hown
      clear hS hv hown
      go_wp2_with fail
      refine C.out.mono ?_
      rintro e w4 ⟨rfl, hS4, ht4⟩
      have hown4 := own_two HO.out ht4 (by omega) (by omega)
      have hB4 := hBr.trans (ht4.below hBr.size (by omega) (by omega))
      have hsz4 : w2.heap.size ≤ w4.heap.size := Nat.le_trans hsz ht4.size
      have Hge := Lib.hid (own_ge hown4)
      have H4 := Lib.hid hS4
      clear C HO ht4 hBr hS4
      go_wp2_with (at_builtin; go_must (refine wpList_append_own_at _ rfl (.tmp 58) (.tmp 60) 35 rfl w2.heap.size 3 i0 (.int .i64 0) 1 8 Try.underlying35 Hi.out Hz0.out Hz1.out Hz2.out rfl (by omega) (.slice A8 k c8) k (ints (upto k)) rfl (hown4.alloc _) ⟨w4.heap.size, 0, none⟩ 1 1 [.int .i64 (k : Int)] rfl rfl ?_ ?_ ?_ ?_ ?_ ?_))
      · intro q u hu
        cases q with
        | zero =>
          simp at hu
          subst hu
          simp [Addr.add]
        | succ q => simp at hu
      · simp [Value.oneCell']
      · simp only [maxLen]; omega
      · omega
      · simp; omega
      · intro v9 w9 hown9 hg9 _ hat
        have hS9 : SI.Slab w9 (b + 1) b _ _ := SI.Slab.grown (SI.Slab.below H4.out ((Below.refl _ _).alloc (Nat.le_refl _) _)) hg9 (fun e => by have := Hge.out _ e.symm; omega) (fun e => by have := Hge.out _ e.symm; omega)
        have hB9 : Below w.heap.size w w9 := (hB4.alloc hB4.size _).grown hg9 (by have := hB4.size; simp; omega) (fun q hq => by have := Hge.out q hq; have := hB.size; omega)
        have hsz9 : w2.heap.size ≤ w9.heap.size := Nat.le_trans hsz4 (Nat.le_trans (by simp) hg9.size)
        rw [show ints (upto k) ++ [Value.int .i64 (k : Int)] = ints (upto (k + 1)) by rw [upto_succ]; simp [ints]] at hown9
        obtain ⟨A10, c10, rfl⟩ := own_slice hown9
        have H9 := Lib.hid hS9
        have HO9 := Lib.hid hown9
        clear hg9 hat hB4 H4 hown4 hS9 hown9
        go_wp2
        go_roundw
        case rel => exact ⟨k + 1, by omega, by go_num, HO9.out, H9.out, hB9, hsz9⟩
        case measure => simp [intOf]; omega
    · obtain rfl : k = L.length := by omega
      obtain ⟨g, cp, hs, hg1, hg2⟩ := hown.form (by omega)
      injection hs with hs1 hs2 hs3
      subst hs1 hs3
      have HAT : Hid (∀ i : Nat, i < L.length → wr.cell? ⟨g, i, none⟩ = some (.int .i64 (i : Int))) := by
        intro i hi
        rw [hown.cellAt i (by omega), ints_at, upto_at hi]
        rfl
      have hne : Hid (g ≠ b + 1 ∧ g ≠ b) := ⟨by omega, by omega⟩
      rw [Nat.sub_self] at hS
      have HS1 := Lib.hid hS
      clear hS hown HS
      go_wp2_with fail
      obtain ⟨wo, rfl⟩ : ∃ wo : World, wo = wr := ⟨_, rfl⟩
      go_loopw [65, 11] (fun c v wq => ∃ (k : Nat) (fl : List Nat) (A : List (Option Int)), k ≤ L.length ∧ c = .int .i64 k ∧ v = .int .i64 fl.length ∧ SI.Slab wq (b + 1) b A fl ∧ A.length = L.length ∧ (∀ (i : Nat) (o : Option Int), A[i]? = some o → (k ≤ i → o = L[i]?) ∧ (i < k → ∀ q, G[i]? = some q → if q then o = none else o = L[i]?)) ∧
         (∀ i : Nat, i < L.length → wq.cell? ⟨g, i, none⟩ = some (.int .i64 (i : Int))) ∧ Below w.heap.size w wq)
        (fun c _ _ => L.length - (intOf c).toNat)
      case atStart => exact ⟨0, [], inA L L.length, by omega, rfl, rfl, HS1.out, inA_length _ _, fun i o h => ⟨fun _ => inA_at h, fun h => absurd h (by omega)⟩, HAT.out, hBr⟩
      case round =>
        obtain ⟨k, fl, A, hk, rfl, rfl, hS, hA, hAi, hat, hBq⟩ := hrel
        have hfl := hS.fl_le
        by_cases hlt : k < L.length
        · obtain ⟨q, hq⟩ : ∃ q, G[k]? = some q := ⟨_, List.getElem?_eq_getElem (by omega)⟩
          obtain ⟨x, rfl, hcell⟩ := HG.out.below hBq hq
          obtain ⟨v, hv⟩ : ∃ v, L[k]? = some v := ⟨_, List.getElem?_eq_getElem hlt⟩
          obtain ⟨o, ho⟩ : ∃ o, A[k]? = some o := ⟨_, List.getElem?_eq_getElem (by omega)⟩
          obtain rfl : o = some v := by rw [(hAi k o ho).1 (Nat.le_refl _), hv]
          have hatk := hat k hlt
          cases q with
          | true =>
            have C := Lib.hid (SI.s_give_yes (k : Int) v hS (by rw [getA_nat, ho]; rfl))
            rw [Int.toNat_natCast] at C
            have HA2 : Hid ((A.set k none).length = L.length ∧ ∀ (i : Nat) (o : Option Int), (A.set k none)[i]? = some o → (k + 1 ≤ i → o = L[i]?) ∧ (i < k + 1 → ∀ q, G[i]? = some q → if q then o = none else o = L[i]?)) := by
              refine ⟨by rw [List.length_set]; exact hA, fun i o h => ?_⟩
              rcases get_set h with ⟨rfl, rfl⟩ | ⟨hne, h⟩
              · refine ⟨fun h => absurd h (by omega), fun _ q hq' => ?_⟩
                rw [hq] at hq'
                injection hq' with hq'
                subst hq'
                rfl
              · exact ⟨fun hh => (hAi i o h).1 (by omega), fun hh => (hAi i o h).2 (by omega)⟩
            have HAT2 := Lib.hid hat
            clear hS hA hAi hq hv ho hat
            go_wp2_with fail
            refine C.out.mono ?_
            rintro e w5 ⟨rfl, hS5, ht5⟩
            have HAT5 : Hid (∀ i : Nat, i < L.length → w5.cell? ⟨g, i, none⟩ = some (.int .i64 (i : Int))) := fun i hi => ht5.cell' (HAT2.out i hi) hne.out.1 hne.out.2
            have hB5 := hBq.trans (ht5.below hBq.size (by omega) (by omega))
            have HS5 := Lib.hid hS5
            clear C HAT2 hS5 ht5 hBq
            go_wp2
            go_roundw
            case rel => exact ⟨k + 1, k :: fl, _, by omega, by go_num, by simp, HS5.out, HA2.out.1, HA2.out.2, HAT5.out, hB5⟩
            case measure => simp [intOf]; omega
          | false =>
            have HA2 : Hid (∀ (i : Nat) (o : Option Int), A[i]? = some o → (k + 1 ≤ i → o = L[i]?) ∧ (i < k + 1 → ∀ q, G[i]? = some q → if q then o = none else o = L[i]?)) := by
              intro i o h
              refine ⟨fun hh => (hAi i o h).1 (by omega), fun hh q hq' => ?_⟩
              by_cases e : i = k
              · subst e
                rw [hq] at hq'
                injection hq' with hq'
                subst hq'
                exact (hAi i o h).1 (Nat.le_refl _)
              · exact (hAi i o h).2 (by omega) q hq'
            have HAT2 := Lib.hid hat
            have HS2 := Lib.hid hS
            have HLA := Lib.hid hA
            clear hS hA hAi hq hv ho hat
            go_wp2
            go_roundw
            case rel => exact ⟨k + 1, fl, _, by omega, by go_num, rfl, HS2.out, HLA.out, HA2.out, HAT2.out, hBq⟩
            case measure => simp [intOf]; omega
        · obtain rfl : k = L.length := by omega
          have HA2 : Hid (∀ (i : Nat) (o : Option Int), A[i]? = some o → ∀ q, G[i]? = some q → if q then o = none ∨ o = some (-7) else o = L[i]?) := by
            intro i o h q hq
            have := (hAi i o h).2 (by rw [← hA]; exact lt_of_some h) q hq
            cases q with
            | true => exact .inl this
            | false => exact this
          have HAT2 := Lib.hid hat
          have HS2 := Lib.hid hS
          have HLA := Lib.hid hA
          generalize hm : fl.length = m at *
          have HM := Lib.hid hm
          clear hS hA hAi hat HAT HS1 hm
          go_wp2_with fail
          obtain ⟨wq, rfl⟩ : ∃ wo : World, wo = wr := ⟨_, rfl⟩
          go_loopw [82] (fun c wz => ∃ (j : Nat) (fl : List Nat) (A : List (Option Int)), j ≤ m ∧ c = .int .i64 j ∧ fl.length = m - j ∧ SI.Slab wz (b + 1) b A fl ∧ A.length = L.length ∧ (∀ (i : Nat) (o : Option Int), A[i]? = some o → ∀ q, G[i]? = some q → if q then o = none ∨ o = some (-7) else o = L[i]?) ∧
             (∀ i : Nat, i < L.length → wz.cell? ⟨g, i, none⟩ = some (.int .i64 (i : Int))) ∧ Below w.heap.size w wz)
            (fun c _ => m - (intOf c).toNat)
          case atStart => exact ⟨0, fl, A, by omega, rfl, HM.out, HS2.out, HLA.out, HA2.out, HAT2.out, hBq⟩
          case round =>
            obtain ⟨j, fl', A', hj, rfl, hfl', hS', hA', hAi', hat', hBz⟩ := hrel
            by_cases hlt' : j < m
            · match fl', hfl', hS' with
              | [], hfl', _ => exact absurd hfl' (by simp; omega)
              | i :: r, hfl', hS' =>
                have hAi0 : A'[i]? = some none := (hS'.mem i).1 (by simp)
                have HR : Hid (r.length = m - (j + 1)) := by simp at hfl'; show _ = _; omega
                have C : Hid (Calls Try.prog 21 #[.pointer (some ⟨b + 1, 0, none⟩), .int .i64 (-7)] wr _) := SI.s_take_yes i r (-7) hS'
                have HA3 : Hid ((A'.set i (some (-7))).length = L.length ∧ ∀ (t : Nat) (o : Option Int), (A'.set i (some (-7)))[t]? = some o → ∀ q, G[t]? = some q → if q then o = none ∨ o = some (-7) else o = L[t]?) := by
                  refine ⟨by rw [List.length_set]; exact hA', fun t o h q hq => ?_⟩
                  rcases get_set h with ⟨rfl, rfl⟩ | ⟨hne, h⟩
                  · have := hAi' t none hAi0 q hq
                    cases q with
                    | true => exact .inr rfl
                    | false =>
                      have h3 := lt_of_some hAi0
                      rw [hA'] at h3
                      have this : (none : Option Int) = L[t]? := this
                      rw [List.getElem?_eq_getElem h3] at this
                      cases this
                  · exact hAi' t o h q hq
                have HAT3 := Lib.hid hat'
                clear hfl' hS' hAi0 hA' hAi' hat'
                go_wp2_with fail
                refine C.out.mono ?_
                rintro e w5 ⟨rfl, hS5, ht5⟩
                have HAT5 : Hid (∀ i : Nat, i < L.length → w5.cell? ⟨g, i, none⟩ = some (.int .i64 (i : Int))) := fun i hi => ht5.cell' (HAT3.out i hi) hne.out.1 hne.out.2
                have hB5 := hBz.trans (ht5.below hBz.size (by omega) (by omega))
                have HS5 := Lib.hid hS5
                clear C HAT3 hS5 ht5 hBz
                go_wp2
                go_roundw
                case rel => exact ⟨j + 1, r, _, by omega, by go_num, HR.out, HS5.out, HA3.out.1, HA3.out.2, HAT5.out, hB5⟩
                case measure => simp [intOf]; omega
            · obtain rfl : fl' = [] := List.eq_nil_of_length_eq_zero (by omega)
              have HA4 : Hid (∀ (i : Nat) (v : Int) (q : Bool), L[i]? = some v → G[i]? = some q → A'[i]? = some (some (if q then -7 else v))) := by
                intro i v q hv hq
                have hl := lt_of_some hv
                obtain ⟨o, ho⟩ : ∃ o, A'[i]? = some o := ⟨_, List.getElem?_eq_getElem (by omega)⟩
                have := hAi' i o ho q hq
                rw [ho]
                cases q with
                | true =>
                  rcases this with rfl | rfl
                  · exact absurd ((hS'.mem i).2 ho) (by simp)
                  · rfl
                | false =>
                  have this : o = L[i]? := this
                  rw [this, hv]
                  rfl
              have HS3 := Lib.hid hS'
              have CF := Lib.hid (SI.s_free hS')
              have HAT3 := Lib.hid hat'
              clear hS' hA' hAi' hat' hfl' HA2 HAT2 HS2 HLA HM
              go_wp2_with fail
              obtain ⟨wz, rfl⟩ : ∃ wo : World, wo = wr := ⟨_, rfl⟩
              go_loopw [89] (fun c wy => ∃ k : Nat, k ≤ L.length ∧ c = .int .i64 k ∧ wy = wz) (fun c _ => L.length - (intOf c).toNat)
              case atStart => exact ⟨0, by omega, rfl, rfl⟩
              case round =>
                obtain ⟨k, hk, rfl, rfl⟩ := hrel
                by_cases hlt : k < L.length
                · obtain ⟨q, hq⟩ : ∃ q, G[k]? = some q := ⟨_, List.getElem?_eq_getElem (by omega)⟩
                  obtain ⟨x, rfl, hcell⟩ := HG.out.below hBz hq
                  obtain ⟨v, hv⟩ : ∃ v, L[k]? = some v := ⟨_, List.getElem?_eq_getElem hlt⟩
                  obtain ⟨y, rfl, hcell2, hwf⟩ := HN.out.below hBz hv
                  have hatk := HAT3.out k hlt
                  have C := Lib.hid (SI.s_get_yes (k : Int) _ HS3.out (by rw [getA_nat, HA4.out k v q hv hq]; rfl))
                  clear hq hv
                  cases q with
                  | true =>
                    rw [if_pos rfl] at C
                    go_wp2_with fail
                    refine C.out.mono ?_
                    rintro e w5 ⟨rfl, rfl⟩
                    go_wp2
                    go_roundw
                    case rel => exact ⟨k + 1, by omega, by go_num, by trivial⟩
                    case measure => simp [intOf]; omega
                  | false =>
                    rw [if_neg (by simp)] at C
                    go_wp2_with fail
                    refine C.out.mono ?_
                    rintro e w5 ⟨rfl, rfl⟩
                    go_wp2
                    go_roundw
                    case rel => exact ⟨k + 1, by omega, by go_num, by trivial⟩
                    case measure => simp [intOf]; omega
                · go_wp2_with fail
                  refine CF.out.mono ?_
                  rintro e w5 ⟨rfl, rfl⟩
                  go_wp2
                  go_ret
                  exact ⟨rfl, hBz⟩
theorem walk_slabkeeps (a : Option Addr) (len cap : Nat) (zs : List Int) (bb : Option Addr) (lb cb : Nat) (w : World) (h : IsRow .i64 w a len cap zs) (hG : ∃ G : List Bool, G.length = lb ∧ Bools w bb G ∧ lb ≤ 9223372036854775807) :
    Calls Try.prog 4 #[.slice a len cap, .slice bb lb cb] w fun e w' => e = .returned (.bool true) ∧ Below w.heap.size w w' := by
  obtain ⟨L, rfl, hN, hm⟩ := nums_of h
  obtain ⟨G, rfl, hG, hm2⟩ := hG
  by_cases hc : L.length = 0 ∨ 60 < L.length ∨ G.length < L.length
  · exact keeps_none a bb _ _ cap cb w hc hm hm2
  · exact keeps_main a bb L G cap cb w (by omega) (by omega) (by omega) hm2 hN hG
end Go.Proofs.Ytgcfiiidhihkaaa.C
