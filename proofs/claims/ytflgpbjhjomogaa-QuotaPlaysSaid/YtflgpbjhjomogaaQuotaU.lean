/- The walk of the reference's Used, New; what is used, plain. -/
import Derived.Test.YtflgpbjhjomogaaQuotaR
import Derived.Test.YtflgpbjhjomogaaReserves
namespace Go.Proofs.Ytflgpbjhjomogaa.C
open Go.RowKit
set_option linter.unusedVariables false
def usedQ (r : Int) (l : List Int) : Int := (l.map (overQ r)).sum
theorem sum_set : ∀ (l : List Int) (c : Nat) (y : Int), c < l.length → (l.set c y).sum = l.sum + (y - l.getD c 0)
  | [], c, y, h => by simp at h
  | a :: l, 0, y, _ => by simp; omega
  | a :: l, c + 1, y, h => by
    have := sum_set l c y (by simpa using h)
    simp only [List.set_cons_succ, List.sum_cons, List.getD_cons_succ]
    omega
theorem used_put {r c n : Int} {l : List Int} (h : c.toNat < l.length) : usedQ r (putL l c n) = putS r (usedQ r l) l c n := by
  unfold usedQ putL putS moreQ
  rw [List.map_set, sum_set _ _ _ (by simpa using h)]
  simp [List.getD_eq_getElem?_getD, h]
theorem used_take_succ {r : Int} {l : List Int} {k : Nat} {x : Int} (h : l[k]? = some x) : usedQ r (l.take (k + 1)) = usedQ r (l.take k) + overQ r x := by
  unfold usedQ
  rw [List.take_add_one, h]
  simp
theorem used_take_range {r : Int} {l : List Int} (hr : 0 ≤ r) (hx : ∀ x ∈ l, 0 ≤ x ∧ x ≤ 1125899906842624) : ∀ k : Nat, 0 ≤ usedQ r (l.take k) ∧ usedQ r (l.take k) ≤ (k : Int) * 1125899906842624
  | 0 => by simp [usedQ]
  | k + 1 => by
    have ih := used_take_range hr hx k
    cases h : l[k]? with
    | none =>
      rw [List.take_add_one, h]
      simp only [Option.toList_none, List.append_nil]
      omega
    | some x =>
      rw [used_take_succ h]
      have h1 := hx x (List.mem_of_getElem? h)
      have h2 : 0 ≤ overQ r x ∧ overQ r x ≤ 1125899906842624 := by unfold overQ; split <;> omega
      omega
set_option maxRecDepth 100000 in
theorem rused_any (base g cap : Nat) (r m : Int) (l : List Int) (w : World) (h : RAt w base g cap l) (hl : l.length ≤ 129) (hr : 0 ≤ r ∧ r ≤ 1073741824) (hx : ∀ x ∈ l, 0 ≤ x ∧ x ≤ 1125899906842624) :
    Calls Try.prog 26 #[rv g cap l.length r m] w fun e w' => e = .returned (.int .i64 (usedQ r l)) ∧ Below w.heap.size w w' := by
  have hB : Below w.heap.size w (w.alloc (.cells #[.slice (some ⟨g, 0, none⟩) l.length cap, .int .i64 r, .int .i64 m] 52)) := (Below.refl _ _).alloc (Nat.le_refl _) _
  have HR := Lib.hid (h.alloc (.cells #[.slice (some ⟨g, 0, none⟩) l.length cap, .int .i64 r, .int .i64 m] 52))
  have HX := Lib.hid hx
  have hlt := h.lt
  have hg : ¬ g = w.heap.size := by omega
  clear h hx
  obtain ⟨hr0, hr1⟩ := hr
  generalize hn : l.length = n at *
  have HN := Lib.hid hn
  clear hn
  go_enter Try.func26, Try.ntmps26
  go_wp2_with fail
  generalize hwB : w.alloc (.cells #[.slice (some ⟨g, 0, none⟩) n cap, .int .i64 r, .int .i64 m] 52) = wB at *
  have e0 : wB.cell? ⟨w.heap.size, 0, none⟩ = some (.slice (some ⟨g, 0, none⟩) n cap) := by rw [← hwB, cell_of_row _ _ _ _ _ _ (heap_alloc_new w _)]; rfl
  have e1 : wB.cell? ⟨w.heap.size, 1, none⟩ = some (.int .i64 r) := by rw [← hwB, cell_of_row _ _ _ _ _ _ (heap_alloc_new w _)]; rfl
  clear hwB
  go_wp2_with fail
  go_loopw [3, 8] (fun o c wr => ∃ (k q : Nat), k ≤ n ∧ c = .int .i64 k ∧ o = .int .i64 (usedQ r (l.take k)) ∧ wr = wB.drewN q) (fun _ c _ => n - (intOf c).toNat)
  case atStart => exact ⟨0, 0, by omega, rfl, by simp [usedQ], rfl⟩
  case round =>
    obtain ⟨k, q, hk, rfl, rfl, rfl⟩ := hrel
    obtain ⟨u0, u1⟩ := used_take_range hr0 HX.out k
    by_cases hlt' : k < n
    · obtain ⟨x, hx⟩ : ∃ x, l[k]? = some x := ⟨_, List.getElem?_eq_getElem (by have := HN.out; omega)⟩
      have hcell := HR.out.at_ hx
      have hs := used_take_succ (r := r) hx
      obtain ⟨x0, x1⟩ := HX.out x (List.mem_of_getElem? hx)
      by_cases hg : r < x
      · have ho : overQ r x = x - r := by unfold overQ; rw [if_pos hg]
        rw [ho] at hs
        have HS := Lib.hid hs
        clear hx hs ho
        generalize usedQ r (l.take k) = u at *
        have hw1 : IntKind.i64.wrap (u + x) = u + x := IntWalk.i64_in _ (by omega)
        have hw2 : IntKind.i64.wrap (u + x - r) = u + x - r := IntWalk.i64_in _ (by omega)
        have e : u + x - r = u + (x - r) := by omega
        go_wp2_with fail
        go_quiet (fail)
        go_wp2_with fail
        go_quiet (fail)
        go_wp2
        go_roundw
        case rel => exact ⟨k + 1, _, by omega, by go_num, by rw [HS.out], rfl⟩
        case measure => simp [intOf]; omega
      · have ho : overQ r x = 0 := by unfold overQ; rw [if_neg hg]
        rw [ho, Int.add_zero] at hs
        have HS := Lib.hid hs
        clear hx hs ho
        generalize usedQ r (l.take k) = u at *
        go_wp2_with fail
        go_quiet (fail)
        go_wp2
        go_roundw
        case rel => exact ⟨k + 1, _, by omega, by go_num, by rw [HS.out], rfl⟩
        case measure => simp [intOf]; omega
    · have e : l.take k = l := List.take_of_length_le (by have := HN.out; omega)
      rw [e]
      go_wp2
      go_ret
      exact ⟨rfl, below_drewN hB _⟩
set_option maxRecDepth 100000 in
theorem rnew_ok (n : Nat) (r m : Int) (w : World) (base : Nat) (hb : base ≤ w.heap.size) (h1 : 1 ≤ n) (h2 : n ≤ 129) :
    Calls Try.prog 19 #[.int .i64 n, .int .i64 r, .int .i64 m] w fun e w' => ∃ g cap, e = .returned (rv g cap n r m) ∧ RAt w' base g cap (List.replicate n 0) ∧ Below w.heap.size w w' := by
  have hmk := make_ints n (by omega)
  go_enter Try.func19, Try.ntmps19
  go_wp2
  have hbox : ((w.alloc (.cells #[Value.slice (some ⟨w.heap.size + 1, 0, none⟩) n n, .int .i64 r, .int .i64 m] 52)).alloc (.cells (ints (List.replicate n 0)) 2)).heap[w.heap.size]? = some (.cells #[Value.slice (some ⟨w.heap.size + 1, 0, none⟩) n n, .int .i64 r, .int .i64 m] 52 (0, 0)) := by
    rw [Go.heap_alloc_old _ _ (by simp), Go.heap_alloc_new]
  (try simp only [Exit.inBlock, Exit.then])
  refine bodyPost_ret (results_cell_row rfl _ _ _ _ _ _ _ rfl hbox Try.underlying52 rfl rfl) rfl ?_
  refine ⟨w.heap.size + 1, n, rfl, ?_, ((Below.refl _ _).alloc (Nat.le_refl _) _).alloc (by simp) _⟩
  have := World.ownsRow_lit (base := base) (e := 2) (size := 1) (w.alloc (.cells #[Value.slice (some ⟨w.heap.size + 1, 0, none⟩) n n, .int .i64 r, .int .i64 m] 52)) (ints (List.replicate n 0)) n (by simp; omega) (by simp only [maxLen]; omega) (by simp [ints])
  unfold RAt
  rw [List.length_replicate]
  simpa [ints, vals] using this
end Go.Proofs.Ytflgpbjhjomogaa.C
