/- The walk of SlabFull. -/
import Derived.Test.YtgcfiiidhihkaaaSlabS
import Derived.Test.YtgcfiiidhihkaaaSlabX
namespace Go.Proofs.Ytgcfiiidhihkaaa.C
open Go.RowKit
set_option linter.unusedVariables false

theorem make_bools (n : Nat) (hn : n ≤ 65536) (W : World) : (Instr.makeSlice 28 (.int .i64 (n : Int)) (.int .i64 (n : Int))).run Try.prog W = .ok (.slice (some ⟨W.heap.size, 0, none⟩) n n) (W.alloc (.cells (List.replicate n (Value.bool false)).toArray 4)) := by
  obtain ⟨i0, hi, hz0, hz1, hz2⟩ := info_parts (show (Try.prog.info? 4).map (fun i => (i.zero, i.size, i.bytes)) = some (some (.bool false), 1, 1) by kernel_rfl)
  have hr := run_make (P := Try.prog) W 28 4 i0 (.bool false) Try.underlying28 hi hz0 .i64 .i64 n n (by omega) (by omega) (by rw [hz2]; omega) (by omega)
  simp only [Int.toNat_natCast] at hr
  rw [hr, hz1, Nat.mul_one]
  have e : madeCells (Value.bool false).cells n = (List.replicate n (Value.bool false)).toArray := by
    apply Array.toList_inj.1
    show (madeCells #[Value.bool false] n).toList = _
    rw [toList_madeCells_one]
  rw [e]
theorem Two.cell {g h : Nat} {w w' : World} (p : Two g h w w') {a : Addr} {v : Value} (hv : w.cell? a = some v) (h1 : a.block ≠ g) (h2 : a.block ≠ h) : w'.cell? a = some v := by
  rw [World.cell?_of_block (p.block a.block (World.block_lt_of_cell? w a hv) h1 h2)]
  exact hv
theorem Two.frozen {g h : Nat} {w w' : World} (p : Two g h w w') {a : Addr} (hv : a.block < w.heap.size) (h1 : a.block ≠ g) (h2 : a.block ≠ h) : w'.frozen? a = w.frozen? a :=
  World.frozen?_of_block (p.block a.block hv h1 h2)

abbrev sx : ByteArray := ⟨#[120]⟩
abbrev sy : ByteArray := ⟨#[121]⟩
abbrev sz : ByteArray := ⟨#[122]⟩

set_option maxRecDepth 100000 in
set_option maxHeartbeats 2000000 in
theorem full_nat (p g : Nat) (w : World) (hp : p ≤ 65535) (hg : g ≤ 65535) : Calls Try.prog 3 #[.int .u16 p, .int .u16 g] w fun e w' => e = .returned (.bool true) ∧ Below w.heap.size w w' := by
  obtain ⟨n, hn⟩ : ∃ n, 1 + p % 300 = n := ⟨_, rfl⟩
  obtain ⟨q, hq⟩ : ∃ q, g % n = q := ⟨_, rfl⟩
  have n1 : 1 ≤ n := by omega
  have n2 : n ≤ 300 := by omega
  have hqn : q < n := by rw [← hq]; exact Nat.mod_lt _ n1
  have e1 : (1 : Int) + (p : Int) % 300 = (n : Int) := by omega
  have e2 : Hid ((g : Int) % (n : Int) = (q : Int)) := by show _ = _; rw [← Int.natCast_emod, hq]
  clear hn hq
  have Ha := Lib.hid (SI.awake w)
  go_enter Try.func3, Try.ntmps3
  go_wp2_with fail
  refine Ha.out.mono ?_
  rintro e w1 ⟨rfl, hB1⟩
  go_wp2_with fail
  refine (SS.s_new n w1 n1 (by omega)).mono ?_
  rintro e w2 ⟨rfl, hS, hB2⟩
  have hB := hB1.trans (hB2.mono hB1.size)
  have hpb : w.heap.size ≤ w1.heap.size := hB1.size
  generalize w1.heap.size = b at hS hpb
  obtain ⟨lt1, lt2⟩ := hS.lt
  have hmk := make_bools n (by omega)
  have HS := Lib.hid hS
  clear hB1 hB2 e1 Ha hS
  go_wp2_with fail
  clear hmk
  generalize hsb : w2.heap.size = sb at *
  have Hsb := Lib.hid hsb
  clear hsb
  go_loopw [33] (fun c wr => ∃ (k : Nat) (A : List (Option ByteArray)) (fl : List Nat), k ≤ n ∧ c = .int .i64 k ∧ SS.Slab wr (b + 1) b A fl ∧ fl.length = n - k ∧ A.length = n ∧ (∀ (j : Nat) (x : ByteArray), A[j]? = some (some x) → x = sx) ∧
      (∀ j : Nat, j < n → wr.cell? ⟨sb, j, none⟩ = some (.bool (decide (j ∉ fl)))) ∧ (∀ j : Nat, wr.frozen? ⟨sb, j, none⟩ = false) ∧ Below w.heap.size w wr ∧ sb < wr.heap.size)
    (fun c _ => n - (intOf c).toNat)
  case atStart =>
    refine ⟨0, _, _, by omega, rfl, HS.out.below ((Below.refl _ _).alloc (Nat.le_refl _) _), by simp, by simp, ?_, ?_, ?_, hB.alloc (by have := hB.size; omega) _, by rw [← Hsb.out]; simp⟩
    · intro j x h
      rw [List.getElem?_replicate] at h
      split at h <;> cases h
    · intro j hj
      rw [← Hsb.out, World.cell?_alloc_new]
      have : j ∈ List.range' 0 n := by simp; exact hj
      simp [this, hj]
    · intro j
      rw [← Hsb.out]
      simp
  case round =>
    obtain ⟨k, A, fl, hk, rfl, hS, hfl, hA, hx, hcell, hfr, hB', hsb'⟩ := hrel
    by_cases hlt : k < n
    · match fl, hfl, hS with
      | [], hfl, _ => exact absurd hfl (by simp; omega)
      | i :: r, hfl, hS =>
        have hAi : A[i]? = some none := (hS.mem i).1 (by simp)
        have hin : i < n := by rw [← hA]; exact lt_of_some hAi
        have hnd := (List.nodup_cons.1 hS.nodup).1
        have C := Lib.hid (SS.s_take_yes i r sx hS)
        obtain ⟨lu1, lu2⟩ := hS.lt
        have hc0 : wr.cell? ⟨sb, i, none⟩ = some (.bool false) := by rw [hcell i hin]; simp
        have hR : Hid (r.length = n - (k + 1)) := by simp at hfl; show _ = _; omega
        have hblk : Hid (sb ≠ b + 1 ∧ sb ≠ b) := ⟨by have := Hsb.out; omega, by have := Hsb.out; omega⟩
        clear hS hfl
        go_wp2_with fail
        refine C.out.mono ?_
        rintro e w4 ⟨rfl, hS4, ht4⟩
        have hc4 : w4.cell? ⟨sb, i, none⟩ = some (.bool false) := ht4.cell hc0 hblk.out.1 hblk.out.2
        have hf4 : ∀ j : Nat, w4.frozen? ⟨sb, j, none⟩ = false := fun j => by rw [ht4.frozen (a := ⟨sb, j, none⟩) hsb' hblk.out.1 hblk.out.2]; exact hfr j
        have hf4i := hf4 i
        have hB4 : Below w.heap.size w w4 := hB'.trans (ht4.below hB'.size (by omega) (by omega))
        have hsz : sb < w4.heap.size := Nat.lt_of_lt_of_le hsb' ht4.size
        have HC : Hid (∀ j : Nat, j < n → (w4.setCell ⟨sb, i, none⟩ (.bool true)).cell? ⟨sb, j, none⟩ = some (.bool (decide (j ∉ r)))) := by
          intro j hj
          by_cases e : j = i
          · subst e
            rw [World.cell?_setCell_same _ _ _ hc4]
            simp [hnd]
          · rw [World.cell?_setCell_other _ _ _ _ (fun h => e (by injection h with _ h; exact h.symm)), ht4.cell (hcell j hj) hblk.out.1 hblk.out.2]
            simp [e]
        have HA : Hid ((A.set i (some sx)).length = n ∧ ∀ (j : Nat) (x : ByteArray), (A.set i (some sx))[j]? = some (some x) → x = sx) := by
          refine ⟨by rw [List.length_set]; exact hA, fun j x h => ?_⟩
          rcases get_set h with ⟨_, h⟩ | ⟨_, h⟩
          · injection h
          · exact hx j x h
        have HS4 : Hid (SS.Slab (w4.setCell ⟨sb, i, none⟩ (.bool true)) (b + 1) b (A.set i (some sx)) r) :=
          hS4.two ((Two.refl sb sb w4).setCell (x := ⟨sb, i, none⟩) (.inl rfl) (.bool true)) hblk.out.1.symm hblk.out.1.symm hblk.out.2.symm hblk.out.2.symm
        have HF := Lib.hid hf4
        clear hS4 hc0 hcell hfr hf4 hA hx hAi C
        go_wp2
        go_roundw
        case rel => exact ⟨k + 1, _, r, by omega, by go_num, HS4.out, hR.out, HA.out.1, HA.out.2, HC.out, fun j => by rw [World.frozen?_setCell]; exact HF.out j, hB4.setCell (by simp; have := Hsb.out; have := hB.size; omega) _, by simpa [World.setCell] using hsz⟩
        case measure => simp [intOf]; omega
    · obtain rfl : fl = [] := List.eq_nil_of_length_eq_zero (by omega)
      have hAq : ∃ x, A[q]? = some (some x) := by
        cases h : A[q]? with
        | none => rw [List.getElem?_eq_none_iff] at h; omega
        | some o =>
          cases o with
          | none => exact absurd ((hS.mem q).2 h) (by simp)
          | some x => exact ⟨x, rfl⟩
      obtain ⟨x, hAq⟩ := hAq
      obtain rfl := hx q x hAq
      have C1 := Lib.hid (SS.s_take_no sy hS)
      have C2 := Lib.hid (SS.s_give_yes (q : Int) sx hS (by rw [getA_nat, hAq]; rfl))
      rw [Int.toNat_natCast] at C2
      have hlA := lt_of_some hAq
      clear hS hcell hfr hx hAq hfl
      go_wp2_with fail
      refine C1.out.mono ?_
      rintro e w4 ⟨rfl, rfl⟩
      go_wp2_with fail
      rw [e2.out]
      refine C2.out.mono ?_
      rintro e w5 ⟨rfl, hS5, ht5⟩
      have C3 := Lib.hid (SS.s_take_yes q [] sz hS5)
      clear hS5 C1 C2
      go_wp2_with fail
      refine C3.out.mono ?_
      rintro e w6 ⟨rfl, hS6, ht6⟩
      rw [List.set_set] at hS6
      have C4 := Lib.hid (SS.s_get_yes (q : Int) sz hS6 (by rw [getA_nat, List.getElem?_set_self hlA]; rfl))
      have C5 := Lib.hid (SS.s_free hS6)
      have hB6 : Below w.heap.size w w6 := hB'.trans ((ht5.trans ht6).below hB'.size (by omega) (by omega))
      clear hS6 C3 ht5 ht6
      go_wp2_with fail
      refine C4.out.mono ?_
      rintro e w7 ⟨rfl, rfl⟩
      go_wp2_with fail
      refine C5.out.mono ?_
      rintro e w8 ⟨rfl, rfl⟩
      clear C4 C5
      go_wp2
      · go_ret
        exact ⟨rfl, hB6⟩
      · rename_i hne
        exact absurd e2.out.symm hne
theorem walk_slabfull (p g : Int) (w : World) (hp : (Lit.int .u16 p).wf = true) (hg : (Lit.int .u16 g).wf = true) : Calls Try.prog 3 #[.int .u16 p, .int .u16 g] w fun e w' => e = .returned (.bool true) ∧ Below w.heap.size w w' := by
  obtain ⟨p0, p1⟩ := bounds_u16 hp
  obtain ⟨g0, g1⟩ := bounds_u16 hg
  obtain ⟨p, rfl⟩ := Int.eq_ofNat_of_zero_le p0
  obtain ⟨g, rfl⟩ := Int.eq_ofNat_of_zero_le g0
  exact full_nat p g w (by omega) (by omega)
end Go.Proofs.Ytgcfiiidhihkaaa.C
