/- The walk of ChokeNever. -/
import Derived.Test.YtflgpbjhjomogaaMatch
import Derived.Maps.AppendAt
import Derived.Deep.AppendLies
import Derived.Deep.DeepMust
namespace Go.Proofs.Ytflgpbjhjomogaa.C
open Go.RowKit
set_option linter.unusedVariables false

theorem flow_info : InfoOk Try.prog 32 36 38 = true := by kernel_rfl
/-- Is the flow among the first k? -/
noncomputable def amongB (F : Nat → Array Value) (fs : Array Value) : Nat → Bool
  | 0 => false
  | k + 1 => amongB F fs k || eqA (F k) fs
theorem amongB_of {F : Nat → Array Value} {fs : Array Value} : ∀ {n k : Nat}, k < n → eqA (F k) fs = true → amongB F fs n = true
  | 0, k, h, _ => absurd h (by omega)
  | n + 1, k, h, he => by
    simp only [amongB, Bool.or_eq_true]
    by_cases hk : k = n
    · subst hk; exact .inr he
    · exact .inl (amongB_of (by omega) he)
def copies (cs : Array Value) : Nat → List Value
  | 0 => []
  | k + 1 => copies cs k ++ cs.toList
theorem copies_length (cs : Array Value) (k : Nat) : (copies cs k).length = k * cs.size := by
  induction k with
  | zero => simp [copies]
  | succ k ih => simp [copies, ih, Nat.add_mul]
theorem copies_at (cs : Array Value) (n i j : Nat) (hi : i < n) (hj : j < cs.size) : (copies cs n)[i * cs.size + j]? = cs[j]? := by
  induction n with
  | zero => omega
  | succ n ih =>
    have hl := copies_length cs n
    by_cases h : i = n
    · subst h
      rw [copies, List.getElem?_append_right (by omega), hl, Nat.add_sub_cancel_left]
      simp
    · have : (i + 1) * cs.size ≤ n * cs.size := Nat.mul_le_mul_right _ (by omega)
      rw [Nat.add_mul] at this
      rw [copies, List.getElem?_append_left (by omega)]
      exact ih (by omega)
theorem flat_one {P : Program} {t : TypeId} {cs : Array Value} (h : Flat P t cs) : ∀ u ∈ cs.toList, u.oneCell' = true := by
  obtain ⟨m, L, _, ht, _, _, _, hL⟩ := h
  rw [cells_of_lits m t ht m _ _ hL]
  intro u hu
  obtain ⟨l, _, rfl⟩ := List.mem_map.1 hu
  cases l <;> rfl

theorem laid_news (w : World) (nq : Nat) (cs : Array Value) (t : TypeId) : ∀ (j : Nat) (u : Value), cs.toList[j]? = some u → ((w.drewN nq).alloc (.cells cs t)).cell? ((⟨w.heap.size, 0, none⟩ : Addr).add j) = some u :=
  fun j u hu => laid_new (w.drewN nq) cs t j u (by simpa using hu)
theorem block_add (a : Addr) (n : Nat) : (a.add n).block = a.block := by unfold Addr.add; split <;> rfl
theorem Laid.alloc {w : World} {a : Addr} {cs : Array Value} (h : Laid w a cs) (o : Obj) (ha : a.block < w.heap.size) : Laid (w.alloc o) a cs := fun j v hv => by
  rw [World.cell?_alloc_lt _ _ _ (by rw [block_add]; exact ha)]
  exact h j v hv
theorem laid_grown {w w' : World} {row : Option Nat} {a : Addr} {cs : Array Value} (h : Laid w a cs) (hg : w.grownBy w' row) (hne : some a.block ≠ row) (ha : a.block < w.heap.size) : Laid w' a cs := fun j v hv => by
  rw [World.cell?_of_block (hg.block _ (by rw [block_add]; exact ha) (by rw [block_add]; exact hne))]
  exact h j v hv

theorem never_many (d : Int) (a : Option Addr) (len cap : Nat) (fs : Array Value) (w : World) (h : 100 < len) (hm : len ≤ 9223372036854775807) :
    Calls Try.prog 5 #[.int .u64 d, .slice a len cap, .agg fs] w fun e w' => e = .returned (.bool true) ∧ Below w.heap.size w w' := by
  go_enter Try.func5, Try.ntmps5
  go_wp2_with (go_at_call 10; refine (awake_any _).mono ?_; rintro e w' ⟨rfl, rfl⟩)
  go_ret
  exact ⟨rfl, (Below.refl _ _).alloc (Nat.le_refl _) _⟩

set_option maxHeartbeats 1000000 in
theorem never_few (d len cap : Nat) (a : Option Addr) (fs : Array Value) (F : Nat → Array Value) (w : World) (hfs : Flat Try.prog 32 fs) (hl : len ≤ 100)
    (hF : ∀ i, i < len → ∃ x, a = some x ∧ x.block < w.heap.size ∧ Flat Try.prog 32 (F i) ∧ Laid w (x.add (i * 36)) (F i)) :
    Calls Try.prog 5 #[.int .u64 d, .slice a len cap, .agg fs] w fun e w' => e = .returned (.bool true) ∧ Below w.heap.size w w' := by
  obtain ⟨i0, z0, hi, hz0, hz1, hz2, hz3⟩ := info_ok flow_info
  have hgt : decide (100 < len) = false := by simp; omega
  have HF := Lib.hid hF
  have Hz3 := Lib.hid hz3
  have Hi := Lib.hid hi
  have Hz0 := Lib.hid hz0
  have Hz1 := Lib.hid hz1
  have Hz2 := Lib.hid hz2
  clear hF hz3 hi hz0 hz1 hz2
  go_enter Try.func5, Try.ntmps5
  go_wp2_with (go_at_call 10; refine (awake_any _).mono ?_; rintro e w' ⟨rfl, rfl⟩)
  go_loopw [24, 7, 8] (fun c am v wr => ∃ k : Nat, k ≤ len ∧ c = .int .i64 k ∧ am = .bool (amongB F fs k) ∧ wr.ownsRow (w.heap.size + 1) 32 36 v k (copies fs k) ∧ Laid wr ⟨w.heap.size, 0, none⟩ fs ∧ Below w.heap.size w wr ∧ w.heap.size + 1 ≤ wr.heap.size)
    (fun c _ _ _ => len - (intOf c).toNat)
  case atStart => exact ⟨0, by omega, rfl, rfl, World.ownsRow_nil _ _ _ _, laid_new _ _ _, (Below.refl _ _).alloc (Nat.le_refl _) _, by simp⟩
  case round =>
    obtain ⟨k, hk, rfl, rfl, hown, hbox, hB, hsz⟩ := hrel
    by_cases hlt : k < len
    · obtain ⟨x, rfl, hx, hFk, hLk⟩ := HF.out k hlt
      have hblk : (x.add (k * 36)).block = x.block := by unfold Addr.add; split <;> rfl
      have hL1 : Laid wr (x.add (k * 36)) (F k) := hLk.below hB (by omega)
      clear hblk
      generalize hb : amongB F fs k = b
      have Hb := Lib.hid hb
      clear hb hLk
      cases b
      all_goals
        go_wp2
        refine wp_region_quiet_lit (by kernel_rfl) (by kernel_rfl) ?_
        repeat (first
          | (go_big_quiet_step (fail))
          | (go_big_quiet_want; refine quiet_load rfl _ rfl (F k) (by kernel_rfl) (by rw [hFk.size]; kernel_rfl) (by rintro _ ⟨n, rfl⟩; exact hL1.drewN n) ?_; go_big_quiet_on; go_frame)
          | (go_big_quiet_want; refine quiet_load rfl _ rfl fs (by kernel_rfl) (by rw [hfs.size]; kernel_rfl) (by rintro _ ⟨n, rfl⟩; exact hbox.drewN n) ?_; go_big_quiet_on; go_frame)
          | (go_big_quiet_want; refine quiet_eql rfl (F k) fs rfl rfl hFk hfs flow_guard ?_; go_big_quiet_on; go_frame))
        refine wpQuiet_nil ?_
        rintro _ ⟨nq, rfl⟩
        have hone := flat_one hfs
        have hHB : (wr.drewN nq).heap.size = wr.heap.size := rfl
        go_wp2_with (first
          | ((with_reducible refine wpList_load_laid 37 5 32 ⟨w.heap.size, 0, none⟩ fs ?_ ?_ ?_ ?_ ?_); rfl; kernel_rfl; (rw [hfs.size]; kernel_rfl); exact hbox.drewN nq)
          | ((with_reducible refine wpList_buildSlice_one 38 37 28 32 fs 36 ?_ ?_ ?_ ?_ ?_ ?_ ?_ ?_); rfl; exact Try.underlying28; kernel_rfl; (exact ⟨z0, by rw [Hi.out]; simp [Hz0.out]⟩); omega; omega; (rw [hfs.size]; kernel_rfl))
          | (at_builtin; go_must (refine wpList_append_own_at _ rfl (.tmp 36) (.tmp 38) 28 rfl (w.heap.size + 1) 32 i0 z0 36 38 Try.underlying28 Hi.out Hz0.out Hz1.out Hz2.out Hz3.out (by omega) u8 k (copies fs k) rfl (by exact World.ownsRow.alloc (w := wr.drewN nq) hown _) ⟨wr.heap.size, 0, none⟩ 1 1 fs.toList rfl ?_ ?_ hone ?_ ?_ ?_ ?_)))
        · rw [Array.length_toList, hfs.size]; rfl
        · exact laid_news wr nq fs 32
        · simp only [maxLen]; omega
        · omega
        · simp; omega
        · intro v' w' hown' hg _ hat
          have hB' : Below w.heap.size w w' := (below_drewN (n := nq) hB |>.alloc (by have := hB.size; simpa using this) (.cells fs 32)).grown hg (by have := hB.size; simp; omega) (fun g hg => by have := (World.ownsRow.lt hown g hg).1; omega)
          have hbox' : Laid w' ⟨w.heap.size, 0, none⟩ fs := laid_grown (((hbox.drewN nq).alloc (.cells fs 32) (by simp; omega))) hg (by intro h; have := (World.ownsRow.lt hown _ h.symm).1; simp at this; omega) (by simp; omega)
          have hsz' : w.heap.size + 1 ≤ w'.heap.size := by have := hg.size; simp at this; omega
          clear hown hg hbox hB hL1 hFk hat
          go_wp2
          go_roundw
          case rel => exact ⟨k + 1, by omega, by go_num, by simp only [amongB, Hb.out]; simp, hown', hbox', hB', hsz'⟩
          case measure => simp [intOf]; omega
    · obtain rfl : k = len := by omega
      rcases Nat.eq_zero_or_pos k with h0 | h0
      · subst h0
        obtain ⟨A, c, rfl⟩ : ∃ A c, u8 = .slice A 0 c := by
          rcases hown.2 with ⟨rfl, _⟩ | ⟨g, cap, cur, rfl, _⟩
          · exact ⟨_, _, rfl⟩
          · exact ⟨_, _, rfl⟩
        generalize amongB F fs 0 = b
        go_wp2_with ((with_reducible refine wpList_load_laid 44 5 32 ⟨w.heap.size, 0, none⟩ fs ?_ ?_ ?_ ?_ ?_); rfl; kernel_rfl; (rw [hfs.size]; kernel_rfl); exact hbox)
        refine (match_none d cap a fs _).mono ?_
        rintro e w1 ⟨rfl, hB1⟩
        have hbox1 := hbox.below hB1 hsz
        go_wp2_with ((with_reducible refine wpList_load_laid 51 5 32 ⟨w.heap.size, 0, none⟩ fs ?_ ?_ ?_ ?_ ?_); rfl; kernel_rfl; (rw [hfs.size]; kernel_rfl); exact hbox1)
        refine (match_none d c A fs _).mono ?_
        rintro e w2 ⟨rfl, hB2⟩
        cases b
        all_goals
          go_wp2
          go_ret
          exact ⟨rfl, (hB.trans (hB1.mono hB.size)).trans (hB2.mono (Nat.le_trans hB.size hB1.size))⟩
      · obtain ⟨x, rfl, hx, _⟩ := HF.out 0 h0
        obtain ⟨g, cap', rfl, hg1, hg2⟩ := hown.form h0
        have hm : d % k < k := Nat.mod_lt _ h0
        obtain ⟨m, Hm⟩ : ∃ m, Hid (d % k = m) := ⟨_, rfl⟩
        rw [Hm.out] at hm
        have hF1 : ∀ i, i < k → Flat Try.prog 32 (F i) ∧ Laid wr (x.add (i * 36)) (F i) := fun i hi => by
          obtain ⟨y, hy, hyb, h1, h2⟩ := HF.out i hi
          injection hy with hy
          subst hy
          exact ⟨h1, h2.below hB (by rw [block_add]; exact hyb)⟩
        have hcs : fs.size = 36 := by rw [hfs.size]; kernel_rfl
        have hF2 : ∀ i, i < k → Flat Try.prog 32 fs ∧ Laid wr ((⟨g, 0, none⟩ : Addr).add (i * 36)) fs := fun i hi => ⟨hfs, fun j v hv => by
          have hj : j < fs.size := by
            rcases Nat.lt_or_ge j fs.size with h | h
            · exact h
            · rw [Array.getElem?_eq_none h] at hv; cases hv
          have := hown.cells (g := g) rfl (i * 36 + j) v (by have := copies_at fs k i j hi hj; rw [hcs] at this; rw [this]; exact hv)
          rw [Go.Deep.add_add]
          exact this⟩
        have HF1 := Lib.hid hF1
        have HF2 := Lib.hid hF2
        have hto := @amongB_of F fs k m hm
        obtain ⟨b, Hb⟩ : ∃ b, Hid (amongB F fs k = b) := ⟨_, rfl⟩
        obtain ⟨q, Hq⟩ : ∃ q, Hid (eqA (F m) fs = q) := ⟨_, rfl⟩
        rw [Hb.out, Hq.out] at hto
        rw [Hb.out]
        have hxm : (x.add (m * 36)).block < wr.heap.size := by rw [block_add]; exact Nat.lt_of_lt_of_le hx hB.size
        have hgm : ((⟨g, 0, none⟩ : Addr).add (m * 36)).block < wr.heap.size := by rw [block_add]; exact hg2
        clear hF1 hF2 hcs hown hg1
        have hpos : decide (0 < k) = true := by simpa using h0
        cases b <;> cases q
        case false.true => exact absurd (hto rfl) (by simp)
        all_goals
          clear hto
          go_wp2_with ((with_reducible refine wpList_load_laid 44 5 32 ⟨w.heap.size, 0, none⟩ fs ?_ ?_ ?_ ?_ ?_); rfl; kernel_rfl; (rw [hfs.size]; kernel_rfl); exact hbox)
          refine (match_some' _ d k cap m x fs F _ h0 (by omega) Hm hm hxm hfs Hq HF1.out).mono ?_
          rintro e w1 ⟨rfl, hB1⟩
          have hbox1 := hbox.below hB1 hsz
          go_wp2_with ((with_reducible refine wpList_load_laid 51 5 32 ⟨w.heap.size, 0, none⟩ fs ?_ ?_ ?_ ?_ ?_); rfl; kernel_rfl; (rw [hfs.size]; kernel_rfl); exact hbox1)
          refine (match_some' true d k cap' m ⟨g, 0, none⟩ fs (fun _ => fs) _ h0 (by omega) Hm hm (Nat.lt_of_lt_of_le hgm hB1.size) hfs (eqA_self fs) (fun i hi => ⟨hfs, ((HF2.out i hi).2).below hB1 (by rw [block_add]; exact hg2)⟩)).mono ?_
          rintro e w2 ⟨rfl, hB2⟩
          have hBB := (hB.trans (hB1.mono hB.size)).trans (hB2.mono (Nat.le_trans hB.size hB1.size))
          go_wp2
          go_ret
          exact ⟨rfl, hBB⟩

theorem walk_never (d : Int) (a : Option Addr) (len cap : Nat) (fs : Array Value) (w : World) (hd : (Lit.int .u64 d).wf = true) (hr : ∃ F, FRow Try.prog 3 32 w a len cap F) (hf : Flat Try.prog 32 fs ∧ Fits (shapeOf Try.prog 3 32) fs.toList) :
    Calls Try.prog 5 #[.int .u64 d, .slice a len cap, .agg fs] w fun e w' => e = .returned (.bool true) ∧ Below w.heap.size w w' := by
  obtain ⟨d0, d1⟩ := bounds_u64 hd
  obtain ⟨d, rfl⟩ := Int.eq_ofNat_of_zero_le d0
  obtain ⟨F, hl, hc, hF⟩ := hr
  have hm : len ≤ 9223372036854775807 := by simp only [maxLen] at hc; omega
  rcases Nat.lt_or_ge 100 len with h | h
  · exact never_many _ _ _ _ _ _ h hm
  · refine never_few d len cap a fs F w hf.1 h fun i hi => ?_
    obtain ⟨x, hx, hb, h1⟩ := hF (by omega)
    obtain ⟨h2, _, h3⟩ := h1 i hi
    rw [flow_cells] at h3
    exact ⟨x, hx, hb, h2, h3⟩
end Go.Proofs.Ytflgpbjhjomogaa.C
