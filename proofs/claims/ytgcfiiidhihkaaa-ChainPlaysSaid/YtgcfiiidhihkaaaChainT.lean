/- The walks of the reference's chains: At, Line. -/
import Derived.Test.YtgcfiiidhihkaaaChainS
namespace Go.Proofs.Ytgcfiiidhihkaaa.C
open Go.RowKit
set_option linter.unusedVariables false
theorem lineQ_first {Q : List (List Nat)} {i p : Nat} {q : List Nat} (h : ∀ (l : Nat) (r : List Nat), l < i → Q[l]? = some r → p ∉ r) (hq : Q[i]? = some q) (hp : p ∈ q) : lineQ Q (p : Nat) = i := by
  unfold lineQ
  have hi := lt_of_some hq
  have hqi : Q[i] = q := by rw [List.getElem?_eq_getElem hi] at hq; injection hq
  have : Q.findIdx? (fun q => q.any (fun x => (x : Int) == (p : Int))) = some i := by
    rw [List.findIdx?_eq_some_iff_getElem]
    refine ⟨hi, ?_, fun j hj => ?_⟩
    · rw [hqi]
      simp only [List.any_eq_true, beq_iff_eq]
      exact ⟨p, hp, rfl⟩
    · simp only [List.any_eq_true, beq_iff_eq, not_exists, not_and]
      intro x hx e
      obtain rfl : x = p := by omega
      exact h j _ hj (List.getElem?_eq_getElem (by omega)) hx
  rw [this]
theorem lineQ_none {Q : List (List Nat)} {p : Int} (h : ∀ (l p' : Nat) (r : List Nat), p = p' → Q[l]? = some r → p' ∉ r) : lineQ Q p = -1 := by
  rcases lineQ_cases Q p with ⟨k, p', q, e, hq, hp, _⟩ | ⟨h1, _⟩
  · exact absurd hp (h k p' q e hq)
  · exact h1
theorem atQ_out {Q : List (List Nat)} {l k : Int} (h : l < 0 ∨ (Q.length : Int) ≤ l ∨ k < 0) : atQ Q l k = -1 := by
  rcases atQ_cases Q l k with ⟨l', k', p, q, rfl, rfl, hq, hp, _⟩ | ⟨h1, _⟩
  · have := lt_of_some hq; omega
  · exact h1
set_option maxRecDepth 100000 in
set_option maxHeartbeats 1000000 in
theorem rc_at (base g cap m : Nat) (l k : Int) (S : List Value) (Q : List (List Nat)) (w : World) (h : CR w base g cap S Q) (hQ : Q.length ≤ 129) (hk : k ≤ 4611686018427387904) (hq4 : ∀ q ∈ Q, q.length ≤ 4096) :
    Calls Try.prog 38 #[cv g cap Q.length m, .int .i64 l, .int .i64 k] w fun e w' => e = .returned (.int .i64 (atQ Q l k)) ∧ Below w.heap.size w w' := by
  have hA : Below w.heap.size w (w.alloc (.cells #[.slice (some ⟨g, 0, none⟩) Q.length cap, .int .i64 (m : Nat)] 57)) := (Below.refl _ _).alloc (Nat.le_refl _) _
  by_cases h0 : l < 0
  · rw [atQ_out (.inl h0)]
    generalize Q.length = n at *
    go_enter Try.func38, Try.ntmps38
    go_wp2
    go_ret
    exact ⟨rfl, hA⟩
  · obtain ⟨l, rfl⟩ := Int.eq_ofNat_of_zero_le (show 0 ≤ l by omega)
    by_cases h1 : l < Q.length
    · by_cases h2 : k < 0
      · rw [atQ_out (.inr (.inr h2))]
        have d0 : decide ((Q.length : Int) ≤ (l : Int)) = false := decide_eq_false (by omega)
        have d1 : decide (Q.length ≤ l) = false := decide_eq_false (by omega)
        generalize Q.length = n at *
        go_enter Try.func38, Try.ntmps38
        go_wp2
        go_ret
        exact ⟨rfl, hA⟩
      · obtain ⟨k, rfl⟩ := Int.eq_ofNat_of_zero_le (show 0 ≤ k by omega)
        obtain ⟨q, hq⟩ : ∃ q, Q[l]? = some q := ⟨_, List.getElem?_eq_getElem h1⟩
        have hq4' := hq4 q (List.mem_of_getElem? hq)
        obtain ⟨A, c, c1, _, _, c2⟩ := (h.below hA).line hq
        have d0 : decide ((Q.length : Int) ≤ (l : Int)) = false := decide_eq_false (by omega)
        have d1 : decide (Q.length ≤ l) = false := decide_eq_false (by omega)
        have hlI : (l : Int) < (Q.length : Int) := by omega
        have C0 := (CK.new (m := m) h).c0
        by_cases h3 : k < q.length
        · obtain ⟨p, hp⟩ : ∃ p, q[k]? = some p := ⟨_, List.getElem?_eq_getElem h3⟩
          obtain ⟨gg, rfl, c3⟩ := c2 k p hp
          rw [atQ_some hq hp]
          have d2 : decide ((q.length : Int) ≤ (k : Int)) = false := decide_eq_false (by omega)
          have d3 : decide (q.length ≤ k) = false := decide_eq_false (by omega)
          have h3I : (k : Int) < (q.length : Int) := by omega
          clear c2 hp hq h hq4
          generalize Q.length = n at *
          generalize q.length = ql at *
          go_enter Try.func38, Try.ntmps38
          generalize hwA : w.alloc (.cells #[.slice (some ⟨g, 0, none⟩) n cap, .int .i64 (m : Nat)] 57) = wA at *
          go_wp2
          go_ret
          exact ⟨rfl, hA⟩
        · have e : atQ Q (l : Nat) (k : Nat) = -1 := by
            unfold atQ
            rw [if_pos (by omega)]
            simp only [Int.toNat_natCast, hq]
            exact atOr_none (by omega)
          rw [e]
          have d2 : decide ((q.length : Int) ≤ (k : Int)) = true := decide_eq_true (by omega)
          have d3 : decide (q.length ≤ k) = true := decide_eq_true (by omega)
          clear c2 hq h hq4 e
          generalize Q.length = n at *
          generalize q.length = ql at *
          go_enter Try.func38, Try.ntmps38
          generalize hwA : w.alloc (.cells #[.slice (some ⟨g, 0, none⟩) n cap, .int .i64 (m : Nat)] 57) = wA at *
          go_wp2
          go_ret
          exact ⟨rfl, hA⟩
    · rw [atQ_out (.inr (.inl (by omega)))]
      have d0 : decide ((Q.length : Int) ≤ (l : Int)) = true := decide_eq_true (by omega)
      have d1 : decide (Q.length ≤ l) = true := decide_eq_true (by omega)
      generalize Q.length = n at *
      go_enter Try.func38, Try.ntmps38
      go_wp2
      go_ret
      exact ⟨rfl, hA⟩
set_option maxRecDepth 100000 in
set_option maxHeartbeats 1000000 in
theorem rc_line (base g cap m : Nat) (p : Int) (S : List Value) (Q : List (List Nat)) (w : World) (h : CR w base g cap S Q) (hQ : Q.length ≤ 129) (hq4 : ∀ q ∈ Q, q.length ≤ 4096) :
    Calls Try.prog 60 #[cv g cap Q.length m, .int .i64 p] w fun e w' => e = .returned (.int .i64 (lineQ Q p)) ∧ Below w.heap.size w w' := by
  have hA : Below w.heap.size w (w.alloc (.cells #[.slice (some ⟨g, 0, none⟩) Q.length cap, .int .i64 (m : Nat)] 57)) := (Below.refl _ _).alloc (Nat.le_refl _) _
  have HR := Lib.hid (h.below hA)
  have C0 := (CK.new (m := m) h).c0
  have HQ4 := Lib.hid hq4
  clear h hq4
  generalize hn : Q.length = n at *
  have HN := Lib.hid hn
  clear hn
  go_enter Try.func60, Try.ntmps60
  generalize hwA : w.alloc (.cells #[.slice (some ⟨g, 0, none⟩) n cap, .int .i64 (m : Nat)] 57) = wA at *
  have HWA := Lib.hid hA
  clear hA
  go_wp2_with fail
  go_loopw [10] (fun c wr => ∃ i : Nat, i ≤ n ∧ c = .int .i64 i ∧ wr = wA ∧ ∀ (l p' : Nat) (r : List Nat), l < i → Q[l]? = some r → p = p' → p' ∉ r) (fun c _ => n - (intOf c).toNat)
  case atStart => exact ⟨0, by omega, rfl, by first | exact hwA | rfl, fun l p' r hl => by omega⟩
  case round =>
    obtain ⟨i, hi, rfl, rfl, hno⟩ := hrel
    have HNO := Lib.hid hno
    clear hno
    by_cases hin : i < n
    · obtain ⟨q, hq⟩ : ∃ q, Q[i]? = some q := ⟨_, List.getElem?_eq_getElem (by have := HN.out; omega)⟩
      have hq4' := HQ4.out q (List.mem_of_getElem? hq)
      obtain ⟨A, c, c1, _, _, c2⟩ := HR.out.line hq
      have hinI : (i : Int) < (n : Int) := by omega
      have HC2 := Lib.hid c2
      have HQQ := Lib.hid hq
      clear c2 hq
      generalize hql : q.length = ql at *
      have HQL := Lib.hid hql
      clear hql
      go_wp2_with fail
      go_loopw [19] (fun c wq => ∃ j : Nat, j ≤ ql ∧ c = .int .i64 j ∧ wq = wr ∧ ∀ (j' p' : Nat), j' < j → q[j']? = some p' → p ≠ p') (fun c _ => ql - (intOf c).toNat)
      case atStart => exact ⟨0, by omega, rfl, rfl, fun j' p' hj => by omega⟩
      case round =>
        obtain ⟨j, hj, rfl, rfl, hnj⟩ := hrel
        have HNJ := Lib.hid hnj
        clear hnj
        by_cases hjq : j < ql
        · obtain ⟨x, hx⟩ : ∃ x, q[j]? = some x := ⟨_, List.getElem?_eq_getElem (by have := HQL.out; omega)⟩
          obtain ⟨gg, rfl, c3⟩ := HC2.out j x hx
          have hjI : (j : Int) < (ql : Int) := by omega
          have HX := Lib.hid hx
          clear hx
          by_cases hxp : (x : Int) = p
          · have e : lineQ Q p = i := by
              subst hxp
              exact lineQ_first (fun l r hl hr => HNO.out l x r hl hr rfl) HQQ.out (List.mem_of_getElem? HX.out)
            have E := Lib.hid e
            have hb : ((x : Int) == p) = true := by simpa using hxp
            clear e
            go_wp2_with fail
            go_ret
            exact ⟨by rw [E.out]; rfl, HWA.out⟩
          · have hb : ((x : Int) == p) = false := beq_false_of_ne hxp
            have HXP := Lib.hid hxp
            clear hxp
            go_wp2_with fail
            go_roundw
            case rel => exact ⟨j + 1, by omega, by go_num, by first | rfl | trivial, fun j' p' hj' hp' e => by
              by_cases e2 : j' = j
              · subst e2
                rw [HX.out] at hp'
                injection hp' with hp'
                exact HXP.out (by omega)
              · exact HNJ.out j' p' (by omega) hp' e⟩
            case measure => simp [intOf]; omega
        · go_wp2_with fail
          go_roundw
          case rel => exact ⟨i + 1, by omega, by go_num, by first | rfl | trivial, fun l p' r hl hr e hm => by
            by_cases e2 : l = i
            · subst e2
              rw [HQQ.out] at hr
              injection hr with hr
              subst hr
              obtain ⟨j', hj'⟩ := List.getElem?_of_mem hm
              exact HNJ.out j' p' (by have := lt_of_some hj'; have := HQL.out; omega) hj' e
            · exact HNO.out l p' r (by omega) hr e hm⟩
          case measure => simp [intOf]; omega
    · have e : lineQ Q p = -1 := lineQ_none fun l p' r e hr => HNO.out l p' r (by have := lt_of_some hr; have := HN.out; omega) hr e
      have E := Lib.hid e
      clear e
      go_wp2_with fail
      go_ret
      exact ⟨by rw [E.out]; rfl, HWA.out⟩
end Go.Proofs.Ytgcfiiidhihkaaa.C
