/- The plain law of quotas: what additions, takings and moves do to the numbers. No program in sight. -/
import Derived.Test.YtflgpbjhjomogaaQuota2
namespace Go.Proofs.Ytflgpbjhjomogaa.C
open Go.RowKit
set_option linter.unusedVariables false

theorem overQ_mono {r x y : Int} (h : x ≤ y) : overQ r x ≤ overQ r y := by unfold overQ; split <;> split <;> omega
theorem overQ_le {r x y : Int} (h : x ≤ y) : overQ r y ≤ overQ r x + (y - x) := by unfold overQ; split <;> split <;> omega
theorem overQ_nn (r x : Int) : 0 ≤ overQ r x := by unfold overQ; split <;> omega

/-- Behind k additions. -/
structure InvA (r m : Int) (k : Nat) (s : Int) (l : List Int) : Prop where
  s0 : 0 ≤ s
  s1 : s ≤ m
  l0 : ∀ x ∈ l, 0 ≤ x ∧ x ≤ (k : Int) * 1073741824
theorem InvA.zero {r m : Int} (n : Nat) (hm : 0 ≤ m) : InvA r m 0 0 (List.replicate n 0) := ⟨by omega, hm, fun x hx => by obtain ⟨_, rfl⟩ := List.mem_replicate.1 hx; omega⟩
theorem InvA.ok {r m : Int} {k : Nat} {s : Int} {l : List Int} (h : InvA r m k s l) (hr : 0 ≤ r ∧ r ≤ 1073741824) (hm : m ≤ 1073741824) (hk : k ≤ 100000) (hl : l.length ≤ 129) : QOk r m s l :=
  ⟨hr.1, hr.2, by have := h.s0; have := h.s1; omega, hm, by have := h.s0; omega, by have := h.s1; omega, hl, fun x hx => by have := h.l0 x hx; omega⟩
theorem mem_set {l : List Int} {c : Nat} {y x : Int} (h : x ∈ l.set c y) : x = y ∨ x ∈ l := by
  rcases List.mem_or_eq_of_mem_set h with h | h
  · exact .inr h
  · exact .inl h
theorem InvA.get {r m : Int} {k : Nat} {s : Int} {l : List Int} (h : InvA r m k s l) (c : Nat) : 0 ≤ l.getD c 0 ∧ l.getD c 0 ≤ (k : Int) * 1073741824 := by
  rw [List.getD_eq_getElem?_getD]
  cases hx : l[c]? with
  | none => simp; omega
  | some x => simpa using h.l0 x (List.mem_of_getElem? hx)
theorem InvA.add {r m : Int} {k : Nat} {s : Int} {l : List Int} (h : InvA r m k s l) (c n : Int) : InvA r m (k + 1) (addS r m s l c n) (addL r m s l c n) := by
  unfold addS addL
  cases hf : fitsB r m s l c n with
  | false => exact ⟨by simpa using h.s0, by simpa using h.s1, fun x hx => by have := h.l0 x (by simpa using hx); omega⟩
  | true =>
    obtain ⟨h1, h2, h3, h4, h5⟩ := fits_in hf
    simp only [if_true]
    have g := h.get c.toNat
    refine ⟨?_, h5, fun x hx => ?_⟩
    · unfold putS moreQ
      have := overQ_mono (r := r) (show l.getD c.toNat 0 ≤ l.getD c.toNat 0 + n by omega)
      have := h.s0
      omega
    · unfold putL at hx
      rcases mem_set hx with rfl | hx
      · omega
      · have := h.l0 x hx; omega
theorem InvA.up {r m : Int} {k : Nat} {s : Int} {l : List Int} (h : InvA r m k s l) : InvA r m (k + 1) s l := ⟨h.s0, h.s1, fun x hx => by have := h.l0 x hx; omega⟩

/-- Class 0 is left alone by the others' additions. -/
theorem addL_zero {r m s c n : Int} {l : List Int} (hc : (c == 0) = false) (h : l.getD 0 0 = 0) : (addL r m s l c n).getD 0 0 = 0 := by
  unfold addL
  cases hf : fitsB r m s l c n with
  | false => simpa using h
  | true =>
    obtain ⟨h1, _⟩ := fits_in hf
    have : c ≠ 0 := by simpa using hc
    simp only [if_true]
    unfold putL
    rw [List.getD_eq_getElem?_getD, List.getElem?_set_ne (by omega), ← List.getD_eq_getElem?_getD]
    exact h
theorem reserve_fits {r m s : Int} {l : List Int} (hr : 0 ≤ r) (hr1 : r ≤ 1073741824) (hs : s ≤ m) (hl : 0 < l.length) (h : l.getD 0 0 = 0) : fitsB r m s l 0 r = true := by
  have he : l[0]? = some 0 := by
    rw [List.getD_eq_getElem?_getD, List.getElem?_eq_getElem hl] at h
    rw [List.getElem?_eq_getElem hl]
    simpa using h
  have := fitsB_x (r := r) (m := m) (s := s) (n := r) (c := 0) he hr hr1
  rw [show ((0 : Nat) : Int) = 0 from rfl] at this
  rw [this]
  unfold moreQ overQ
  simp
  omega
/-- Less of what fits fits. -/
theorem fits_less {r m s c n d : Int} {l : List Int} (h : fitsB r m s l c n = true) (h0 : 0 ≤ d) (h1 : d ≤ n) : fitsB r m s l c d = true := by
  obtain ⟨a, b, c1, d1, e⟩ := fits_in h
  obtain ⟨c, rfl⟩ := Int.eq_ofNat_of_zero_le a
  have hlt : c < l.length := by simpa using b
  have he : l[c]? = some (l.getD c 0) := by rw [List.getD_eq_getElem?_getD, List.getElem?_eq_getElem hlt]; rfl
  rw [fitsB_x he h0 (by omega)]
  unfold putS at e
  rw [Int.toNat_natCast] at e
  unfold moreQ at e ⊢
  have := overQ_mono (r := r) (show l.getD c 0 + d ≤ l.getD c 0 + n by omega)
  exact decide_eq_true (by omega)
theorem bytes_add {r m s c n : Int} {l : List Int} (h : fitsB r m s l c n = true) : bytesQ (addL r m s l c n) c = bytesQ l c + n := by
  obtain ⟨a, b, c1, d1, e⟩ := fits_in h
  obtain ⟨c, rfl⟩ := Int.eq_ofNat_of_zero_le a
  have hlt : c < l.length := by simpa using b
  unfold bytesQ hasB addL
  rw [if_pos h]
  unfold putL
  simp [hlt, List.getD_eq_getElem?_getD]
theorem bytes_not {r m s c n d : Int} {l : List Int} (h : fitsB r m s l c n = false) : bytesQ (addL r m s l c n) d = bytesQ l d := by
  unfold addL
  rw [h]
  rfl
theorem bytesQ_range {r m : Int} {k : Nat} {s : Int} {l : List Int} (h : InvA r m k s l) (c : Int) : 0 ≤ bytesQ l c ∧ bytesQ l c ≤ (k : Int) * 1073741824 := by
  unfold bytesQ
  split
  · exact h.get _
  · omega
end Go.Proofs.Ytflgpbjhjomogaa.C
