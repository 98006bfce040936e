/- The walk of ChainEnds. -/
import Derived.Test.YtgcfiiidhihkaaaChainD
namespace Go.Proofs.Ytgcfiiidhihkaaa.C
open Go.RowKit
set_option linter.unusedVariables false
/-- m - 1, m - 2, ..: k numbers. -/
def desc (m k : Nat) : List Nat := (List.range k).map fun i => m - 1 - i
theorem desc_length (m k : Nat) : (desc m k).length = k := by simp [desc]
theorem desc_succ (m k : Nat) : desc m (k + 1) = desc m k ++ [m - 1 - k] := by simp [desc, List.range_succ]
theorem desc_not {m k : Nat} (h : k < m) : m - 1 - k ∉ desc m k := by
  intro hm
  simp only [desc, List.mem_map, List.mem_range] at hm
  obtain ⟨i, hi, e⟩ := hm
  omega
theorem desc_cut (m j : Nat) : (desc m (j + 1)).eraseIdx j = desc m j := by
  rw [desc_succ]
  have := List.eraseIdx_append_of_length_le (l := desc m j) (k := j) (by rw [desc_length]; omega) [m - 1 - j]
  rw [this, desc_length, Nat.sub_self]
  simp
theorem desc_at {m j : Nat} : (desc m (j + 1))[j]? = some (m - 1 - j) := by simp [desc]
theorem two_not {a p : Nat} {q : List Nat} (hp : p ∉ q) : ∀ (l : Nat) (r : List Nat), [[], q][l]? = some r → p ∉ r := by
  intro l r h
  match l, h with
  | 0, h => simp at h; subst h; simp
  | 1, h => simp at h; subst h; exact hp
  | n + 2, h => simp at h

set_option maxRecDepth 100000 in
set_option maxHeartbeats 300000 in
theorem ends_nat (g : Nat) (w : World) (hg : g ≤ 255) : Calls Try.prog 8 #[.int .u8 g] w fun e w' => e = .returned (.bool true) ∧ Below w.heap.size w w' := by
  obtain ⟨m, hm⟩ : ∃ m, g % 100 = m := ⟨_, rfl⟩
  have m1 : m ≤ 99 := by omega
  have e1 : (g : Int) % 100 = (m : Int) := by omega
  clear hm
  have Ha := Lib.hid (CH.awake w)
  go_enter Try.func8, Try.ntmps8
  go_wp2_with fail
  refine Ha.out.mono ?_
  rintro e w1 ⟨rfl, hB1⟩
  have C1 : Hid (Calls Try.prog 27 #[.int .i64 2, .int .i64 100] w1 _) := CH.c_new 2 100 w1 (by omega) (by omega) (by omega) (by omega)
  clear Ha
  go_wp2_with fail
  refine C1.out.mono ?_
  rintro e w2 ⟨pb, b1, b2, rfl, g1, g2, g3, hS, hB2⟩
  have hB := hB1.trans (hB2.mono hB1.size)
  have hs1 := hB1.size
  have H0 : Hid (CH.Chain w2 pb b1 b2 [[], []] 100) := hS
  clear C1 hS hB1 hB2
  go_wp2_with fail
  go_loopw [19] (fun c wr => ∃ t : Nat, t ≤ 2 ∧ c = .int .i64 (t : Nat) ∧ CH.Chain wr pb b1 b2 [[], []] 100 ∧ Below w.heap.size w wr) (fun c _ => 2 - (intOf c).toNat)
  case atStart => exact ⟨0, by omega, rfl, H0.out, hB⟩
  case round =>
    obtain ⟨t, ht, rfl, hS, hBr⟩ := hrel
    by_cases hlt : t < 2
    · have hlt' : decide ((t : Int) < 2) = true := decide_eq_true (by omega)
      have H1 := Lib.hid hS
      clear hS H0
      go_wp2_with fail
      obtain ⟨wo, rfl⟩ : ∃ wo : World, wo = wr := ⟨_, rfl⟩
      go_loopw [22] (fun c wq => ∃ k : Nat, k ≤ m ∧ c = .int .i64 (k : Nat) ∧ CH.Chain wq pb b1 b2 [[], desc m k] 100 ∧ Below w.heap.size w wq) (fun c _ => m - (intOf c).toNat)
      case atStart => exact ⟨0, by omega, rfl, H1.out, hBr⟩
      case round =>
        obtain ⟨k, hk, rfl, hS, hBq⟩ := hrel
        by_cases hkm : k < m
        · have C : Hid (Calls Try.prog 28 #[.pointer (some ⟨pb, 0, none⟩), .int .i64 1, .int .i64 ((m : Int) - 1 - (k : Int))] wr fun e w' => e = .returned (.bool true) ∧ CH.Chain w' pb b1 b2 [[], desc m (k + 1)] 100 ∧ Two b1 b2 wr w') := by
            rw [show (m : Int) - 1 - (k : Int) = ((m - 1 - k : Nat) : Int) by omega, desc_succ]
            exact CH.c_push (l := 1) (p := m - 1 - k) (q := desc m k) hS rfl (by omega) (two_not (a := 0) (desc_not hkm))
          have hwa : IntKind.i64.wrap ((m : Int) - 1) = (m : Int) - 1 := IntWalk.i64_in _ (by omega)
          have hwb : IntKind.i64.wrap ((m : Int) - 1 - (k : Int)) = (m : Int) - 1 - (k : Int) := IntWalk.i64_in _ (by omega)
          clear hS
          go_wp2_with fail
          refine C.out.mono ?_
          rintro e w5 ⟨rfl, hS5, ht5⟩
          have hB5 := hBq.trans (ht5.below hBq.size (by omega) (by omega))
          have H5 := Lib.hid hS5
          clear C hS5 ht5
          go_wp2
          go_roundw
          case rel => exact ⟨k + 1, by omega, by go_num, H5.out, hB5⟩
          case measure => simp [intOf]; omega
        · obtain rfl : k = m := by omega
          have H2 := Lib.hid hS
          clear hS
          go_wp2_with fail
          obtain ⟨wo2, rfl⟩ : ∃ wo : World, wo = wr := ⟨_, rfl⟩
          go_loopw [34] (fun c wq => ∃ j : Nat, j ≤ k ∧ c = .int .i64 (j : Nat) ∧ CH.Chain wq pb b1 b2 [[], desc k (k - j)] 100 ∧ Below w.heap.size w wq) (fun c _ => k - (intOf c).toNat)
          case atStart => exact ⟨0, by omega, rfl, H2.out, hBq⟩
          case round =>
            obtain ⟨j, hj, rfl, hS, hBz⟩ := hrel
            by_cases hjm : j < k
            · have C : Hid (Calls Try.prog 33 #[.pointer (some ⟨pb, 0, none⟩), .int .i64 1, .int .i64 ((k : Int) - 1 - (j : Int))] wr fun e w' => e = .returned (.tuple #[.int .i64 (j : Nat), .bool true]) ∧ CH.Chain w' pb b1 b2 [[], desc k (k - (j + 1))] 100 ∧ Two b1 b2 wr w') := by
                rw [show (k : Int) - 1 - (j : Int) = ((k - (j + 1) : Nat) : Int) by omega]
                rw [show k - j = (k - (j + 1)) + 1 by omega] at hS
                have := CH.c_cut (l := 1) (k := k - (j + 1)) (p := k - 1 - (k - (j + 1))) (q := desc k (k - (j + 1) + 1)) hS rfl desc_at
                rw [desc_cut, show k - 1 - (k - (j + 1)) = j by omega] at this
                exact this
              have hwa : IntKind.i64.wrap ((k : Int) - 1) = (k : Int) - 1 := IntWalk.i64_in _ (by omega)
              have hwb : IntKind.i64.wrap ((k : Int) - 1 - (j : Int)) = (k : Int) - 1 - (j : Int) := IntWalk.i64_in _ (by omega)
              clear hS
              go_wp2_with fail
              refine C.out.mono ?_
              rintro e w5 ⟨rfl, hS5, ht5⟩
              have hB5 := hBz.trans (ht5.below hBz.size (by omega) (by omega))
              have H5 := Lib.hid hS5
              clear C hS5 ht5
              go_wp2
              go_roundw
              case rel => exact ⟨j + 1, by omega, by go_num, H5.out, hB5⟩
              case measure => simp [intOf]; omega
            · have H5 : Hid (CH.Chain wr pb b1 b2 [[], []] 100) := by
                rw [show k - j = 0 by omega] at hS
                exact hS
              clear hS
              go_wp2
              go_roundw
              case rel => exact ⟨t + 1, by omega, by go_num, H5.out, hBz⟩
              case measure => simp [intOf]; omega
    · have C : Hid (Calls Try.prog 29 #[.pointer (some ⟨pb, 0, none⟩), .int .i64 1] wr fun e w' => e = .returned (.int .i64 0) ∧ w' = wr) := CH.c_len (l := 1) (q := []) hS rfl
      clear hS
      go_wp2_with fail
      refine C.out.mono ?_
      rintro e w5 ⟨rfl, rfl⟩
      go_wp2
      go_ret
      exact ⟨rfl, hBr⟩
theorem walk_chainends (g : Int) (w : World) (hg : (Lit.int .u8 g).wf = true) : Calls Try.prog 8 #[.int .u8 g] w fun e w' => e = .returned (.bool true) ∧ Below w.heap.size w w' := by
  obtain ⟨g0, g1⟩ := bounds_u8 hg
  obtain ⟨g, rfl⟩ := Int.eq_ofNat_of_zero_le g0
  exact ends_nat g w (by omega)
end Go.Proofs.Ytgcfiiidhihkaaa.C
