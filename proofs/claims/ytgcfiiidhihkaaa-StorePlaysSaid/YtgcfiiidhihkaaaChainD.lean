/- Chains in memory: the contract of Cut. -/
import Derived.Test.YtgcfiiidhihkaaaChainA
namespace Go.Proofs.Ytgcfiiidhihkaaa.C.CH
open Go.RowKit
set_option linter.unusedVariables false
theorem erase_ln {q : List Nat} {k : Nat} (hk : k < q.length) : (⟨atOr (q.eraseIdx k) 0, atOr (q.eraseIdx k) ((q.eraseIdx k).length - 1), (q.eraseIdx k).length⟩ : Ln) =
    ⟨if k = 0 then atOr q (k + 1) else atOr q 0, if k + 1 = q.length then aheadOr q k else atOr q (q.length - 1), (q.length : Int) - 1⟩ := by
  have hel : (q.eraseIdx k).length = q.length - 1 := List.length_eraseIdx_of_lt hk
  rw [hel]
  congr 1
  · rw [atOr_erase]
    by_cases h : k = 0
    · subst h
      rw [if_neg (by omega), if_pos rfl]
    · rw [if_pos (by omega), if_neg h]
  · rw [atOr_erase]
    by_cases h : k + 1 = q.length
    · rw [if_pos h]
      unfold aheadOr
      by_cases h0 : k = 0
      · subst h0
        rw [if_neg (by omega), if_pos rfl, atOr_none (by omega)]
      · rw [if_pos (by omega), if_neg h0, show q.length - 1 - 1 = k - 1 by omega]
    · rw [if_neg h, if_neg (by omega), show q.length - 1 - 1 + 1 = q.length - 1 by omega]
  · omega
section
variable {w : World} {pb b1 b2 m : Nat} {Q : List (List Nat)}
theorem c_cut (h : Chain w pb b1 b2 Q m) {l k p : Nat} {q : List Nat} (hq : Q[l]? = some q) (hp : q[k]? = some p) :
    Calls Try.prog 33 #[.pointer (some ⟨pb, 0, none⟩), .int .i64 (l : Nat), .int .i64 (k : Nat)] w fun e w' => e = .returned (.tuple #[.int .i64 (p : Nat), .bool true]) ∧ Chain w' pb b1 b2 (Q.set l (q.eraseIdx k)) m ∧ Two b1 b2 w w' := by
  have hnd := (h.nodup hq).2
  obtain ⟨ln, lk, h1, h2, rfl, h4, h5⟩ := h
  have hkl := lt_of_some hp
  have C := Lib.hid (find_yes pb b1 b2 l k p q Q ln lk w h1 h2 hq hp (by rw [h2.len]; omega) (by omega) (by omega))
  have hline := h2.line l q hq
  have hy := h2.seg l q k p hq hp
  have hln : ln.length ≤ 65536 := by rw [h2.len]; omega
  have hlk : lk.length ≤ 65536 := by omega
  have hE := erase_ln hkl
  by_cases h0 : k = 0
  · have ha : aheadOr q k = -1 := by unfold aheadOr; rw [if_pos h0]
    rw [ha] at C hE
    have hI := h2.cut hq hp (lk' := lk.set p ⟨-1, -1⟩) (List.getElem?_set_self (lt_of_some hy)) (fun u hu => absurd hu (by omega)) (fun u hu _ => List.getElem?_set_ne (fun e => hu e.symm))
    rw [hE, if_pos h0] at hI
    by_cases hx : k + 1 = q.length
    · rw [atOr_none (q := q) (k := k + 1) (by omega)] at hy hI
      rw [if_pos hx] at hI
      refine (cut_he pb b1 b2 l k p _ _ _ _ ln lk w h1 C hline hy (by omega) (by omega) hln hlk).mono ?_
      rintro e w' ⟨rfl, hC, hT⟩
      exact ⟨rfl, ⟨_, _, hC, hI, by rw [List.length_set], by rw [List.length_set]; exact h4, h5⟩, hT⟩
    · obtain ⟨v, hv, hat⟩ := atOr_lt (q := q) (k := k + 1) (by omega)
      rw [hat] at hy hI
      rw [if_neg hx] at hI
      refine (cut_hm pb b1 b2 l k p v _ _ _ _ ln lk w h1 C hline hy (by omega) (by omega) hln hlk).mono ?_
      rintro e w' ⟨rfl, hC, hT⟩
      exact ⟨rfl, ⟨_, _, hC, hI, by rw [List.length_set], by rw [List.length_set]; exact h4, h5⟩, hT⟩
  · obtain ⟨u, hu, hatu⟩ := atOr_lt (q := q) (k := k - 1) (by omega)
    have ha : aheadOr q k = (u : Nat) := by unfold aheadOr; rw [if_neg h0, hatu]
    rw [ha] at C hE
    have hz := h2.seg l q (k - 1) u hq hu
    have hup : u ≠ p := fun e => by subst e; have := h2.inj l q _ _ u hq hu hp; omega
    have hI := h2.cut hq hp (lk' := (lk.set u ⟨l, atOr q (k + 1)⟩).set p ⟨-1, -1⟩) (List.getElem?_set_self (by rw [List.length_set]; exact lt_of_some hy))
      (fun u' _ hu' => by
        rw [hu] at hu'
        injection hu' with hu'
        subst hu'
        rw [List.getElem?_set_ne (fun e => hup e.symm), List.getElem?_set_self (lt_of_some hz)])
      (fun u' hu1 hu2 => by
        rw [List.getElem?_set_ne (fun e => hu1 e.symm), List.getElem?_set_ne (fun e => hu2 (by omega) (by rw [hu, e]))])
    rw [hE, if_neg h0] at hI
    by_cases hx : k + 1 = q.length
    · rw [atOr_none (q := q) (k := k + 1) (by omega)] at hy hI
      rw [if_pos hx] at hI
      refine (cut_me pb b1 b2 l k p u _ _ _ _ _ _ ln lk w h1 C hline hy hz hup (by omega) (by omega) hln hlk).mono ?_
      rintro e w' ⟨rfl, hC, hT⟩
      exact ⟨rfl, ⟨_, _, hC, hI, by simp, by rw [List.length_set]; exact h4, h5⟩, hT⟩
    · obtain ⟨v, hv, hat⟩ := atOr_lt (q := q) (k := k + 1) (by omega)
      rw [hat] at hy hI
      rw [if_neg hx] at hI
      refine (cut_mm pb b1 b2 l k p u v _ _ _ _ _ _ ln lk w h1 C hline hy hz hup (by omega) (by omega) hln hlk).mono ?_
      rintro e w' ⟨rfl, hC, hT⟩
      exact ⟨rfl, ⟨_, _, hC, hI, by simp, by rw [List.length_set]; exact h4, h5⟩, hT⟩
end
end Go.Proofs.Ytgcfiiidhihkaaa.C.CH
