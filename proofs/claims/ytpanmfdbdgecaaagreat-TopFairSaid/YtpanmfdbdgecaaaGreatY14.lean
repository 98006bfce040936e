/- A flow's key, as bytes. · The police: Arrive of somebody who isn't in the box and isn't put into it. (Printed by arrivefull.py.) · The box: it is full. · The police: Arrive of somebody who is in the box. (Printed by arrivein.py.) · The police: who is the first in the box, and is let send. · The law TopFull: what waits, what is counted, who is in the box. · Blue of one level: Take. -/
import Derived.Test.YtpanmfdbdgecaaaGreatY13
namespace Go.Proofs.YtpanmfdbdgecaaaGreat.C
open Go.RowKit
set_option linter.unusedVariables false
/-- Bytes that were put. -/
def OutAt (w : World) (base ob : Nat) (xs : List Nat) : Prop := ∃ u, w.heap[ob]? = some (.cells #[u] 366 (0, 0)) ∧ base ≤ ob ∧ w.ownsRow base 5 1 u xs.length (bv xs)
theorem OutAt.below {w w' : World} {base ob : Nat} {xs : List Nat} (h : OutAt w base ob xs) (p : Below w.heap.size w w') : OutAt w' base ob xs := by
  obtain ⟨u, h1, h2, h3⟩ := h
  exact ⟨u, keep_block p h1, h2, OW.below h3 p⟩
set_option maxRecDepth 100000 in
theorem out_raw (base ob g o m c : Nat) (xs ys : List Nat) (w : World) (h : OutAt w base ob xs) (hy : ys.length = m) (hs : ∀ (j : Nat) (v : Value), (bv ys)[j]? = some v → w.cell? ⟨g, o + j, none⟩ = some v) (hm : xs.length + m ≤ 1000) :
    Calls Tryz.prog 206 #[.pointer (some ⟨ob, 0, none⟩), .slice (some ⟨g, o, none⟩) m c] w fun e w' => e = .returned (.tuple #[]) ∧ OutAt w' base ob (xs ++ ys) ∧ Below base w w' := by
  obtain ⟨i0, hi, hz0, hz1, hz2⟩ := info_parts u8_info
  obtain ⟨u, h1, h2, h3⟩ := h
  have Hi := Lib.hid hi
  have Hz0 := Lib.hid hz0
  have Hz1 := Lib.hid hz1
  have Hz2 := Lib.hid hz2
  have H1 := Lib.hid h1
  have H3 := Lib.hid h3
  have HS := Lib.hid hs
  have HY := Lib.hid hy
  have hsz := (Array.getElem?_eq_some_iff.1 h1).1
  have k0 := cells_of_row h1 0 _ rfl
  have f0 := frozen_of_row _ _ 0 _ _ h1
  clear hi hz0 hz1 hz2 h1 h3 hs hy
  go_enter Tryz.func206, Tryz.ntmps206
  go_wp2_with (at_builtin; go_must (refine wpList_append_own_at _ rfl (.tmp 10) (.tmp 11) 37 rfl base 5 i0 (.int .u8 0) 1 1 Tryz.underlying37 Hi.out Hz0.out Hz1.out Hz2.out rfl (by omega) u xs.length (bv xs) rfl H3.out ⟨g, o, none⟩ m c (bv ys) rfl ?hl ?hn bv_one ?h63 ?hb ?hbase ?next))
  case hl => rw [bv_len, HY.out, Nat.mul_one]
  case hn =>
    intro j v hv
    rw [OW.addr_off]
    exact HS.out j v hv
  case h63 => simp only [maxLen]; omega
  case hb => omega
  case hbase => omega
  case next =>
    intro v' w' hown hg _ hat
    obtain ⟨A2, c2, rfl⟩ := OW.slice hown
    have hub : u.ownBlock ≠ some ob := fun e => by
      rcases H3.out.2 with ⟨rfl, _⟩ | ⟨g2, cap, cur, rfl, _, hh, _⟩
      · cases e
      · have e2 : g2 = ob := by
          simp only [Value.ownBlock, Option.some.injEq] at e
          exact e
        exact ne_ty hh H1.out (by decide) e2
    have hob : w'.heap[ob]? = some (.cells #[u] 366 (0, 0)) := (hg.block ob hsz (fun e => hub e.symm)).trans H1.out
    have hvb : (Value.slice A2 (xs.length + m) c2).ownBlock ≠ some ob := fun e => by
      rcases hown.2 with ⟨h0, _⟩ | ⟨g2, cap, cur, h0, _, hh, _⟩
      · rw [h0] at e; cases e
      · rw [h0] at e
        have e2 : g2 = ob := by
          simp only [Value.ownBlock, Option.some.injEq] at e
          exact e
        exact ne_ty hh hob (by decide) e2
    have hown2 := ownsRow_setCell_other hown (a := ⟨ob, 0, none⟩) hvb (.slice A2 (xs.length + m) c2)
    have hB : Below base w w' := (Below.refl base w).grown hg (by omega) (fun q hq => (World.ownsRow.lt H3.out q hq).1)
    have hfin : OutAt (w'.setCell ⟨ob, 0, none⟩ (.slice A2 (xs.length + m) c2)) base ob (xs ++ ys) := ⟨.slice A2 (xs.length + m) c2, by rw [heap_setCell_same _ _ 0 _ _ _ hob]; rfl, h2, by
      have := hown2
      rw [List.length_append, HY.out, show bv (xs ++ ys) = bv xs ++ bv ys by simp [bv]]
      exact this⟩
    have HF := Lib.hid hfin
    have HB := Lib.hid (hB.setCell (p := ⟨ob, 0, none⟩) h2 (.slice A2 (xs.length + m) c2))
    have k1 := cells_of_row hob 0 _ rfl
    have f1 := frozen_of_row _ _ 0 _ _ hob
    clear hown hown2 hg hat hub hvb hob hB hfin k0 f0
    go_wp2
    go_end0
    exact ⟨rfl, HF.out, HB.out⟩
set_option maxRecDepth 100000 in
theorem out_u8 (base ob n : Nat) (xs : List Nat) (w : World) (h : OutAt w base ob xs) (hb : base ≤ w.heap.size) (hm : xs.length ≤ 900) :
    Calls Tryz.prog 205 #[.pointer (some ⟨ob, 0, none⟩), .int .u8 (n : Nat)] w fun e w' => e = .returned (.tuple #[]) ∧ OutAt w' base ob (xs ++ [n]) ∧ Below base w w' := by
  have qa : Below w.heap.size w (w.alloc (.cells #[.int .u8 (n : Nat)] 5)) := (Below.refl _ _).alloc (Nat.le_refl _) _
  have C := Lib.hid (out_raw base ob w.heap.size 0 1 1 xs [n] (w.alloc (.cells #[.int .u8 (n : Nat)] 5)) (h.below qa) rfl (fun j v hv => by
    rw [Nat.zero_add, cell_of_row _ _ _ _ _ _ (Go.heap_alloc_new w _)]
    simpa [bv] using hv) (by omega))
  have Q := Lib.hid (qa.mono hb)
  clear h qa
  go_enter Tryz.func205, Tryz.ntmps205
  go_wp2_with fail
  refine C.out.mono ?_
  rintro e w1 ⟨rfl, hO, hB⟩
  have HO := Lib.hid hO
  have HB := Lib.hid (Q.out.trans hB)
  clear hO hB C
  go_wp2
  go_end0
  exact ⟨rfl, HO.out, HB.out⟩
set_option maxRecDepth 100000 in
theorem out_u16 (base ob n n0 n1 : Nat) (xs : List Nat) (w : World) (h : OutAt w base ob xs) (hb : base ≤ w.heap.size) (hm : xs.length ≤ 900) (hn : (n = 1000 ∧ n0 = 3 ∧ n1 = 232) ∨ (n = 53 ∧ n0 = 0 ∧ n1 = 53)) :
    Calls Tryz.prog 207 #[.pointer (some ⟨ob, 0, none⟩), .int .u16 (n : Nat)] w fun e w' => e = .returned (.tuple #[]) ∧ OutAt w' base ob (xs ++ [n0, n1]) ∧ Below base w w' := by
  obtain ⟨i0, hi, hz0, hz1, hz2⟩ := info_parts u8_info
  have Hi := Lib.hid hi
  have Hz0 := Lib.hid hz0
  have Hz1 := Lib.hid hz1
  have Hz2 := Lib.hid hz2
  have HO := Lib.hid h
  have C : Hid (Calls Tryz.prog 210 #[.pointer (some ⟨ob, 0, none⟩), .int .u64 (n : Nat), .int .i64 2] w fun e w' => e = .returned (.tuple #[]) ∧ OutAt w' base ob (xs ++ [n0, n1]) ∧ Below base w w') := Lib.hid (by
    clear h hi hz0 hz1 hz2
    rcases hn with ⟨rfl, rfl, rfl⟩ | ⟨rfl, rfl, rfl⟩
    · show Calls Tryz.prog 210 #[.pointer (some ⟨ob, 0, none⟩), .int .u64 1000, .int .i64 2] w _
      go_enter Tryz.func210, Tryz.ntmps210
      go_wp2_with fail
      go_loopw [6, 7] (fun s t wr => ∃ k : Nat, k ≤ 2 ∧ t = .int .i64 (1 - (k : Int)) ∧ wr.ownsRow w.heap.size 5 1 s k (bv ([3, 232].take k)) ∧ Below w.heap.size w wr) (fun _ t _ => (intOf t + 1).toNat)
      case atStart => exact ⟨0, by omega, rfl, World.ownsRow_nil _ _ _ _, Below.refl _ _⟩
      case round =>
        obtain ⟨k, hk, rfl, ho, hB⟩ := hrel
        rcases (show k = 0 ∨ k = 1 ∨ k = 2 by omega) with rfl | rfl | rfl
        · have HOR := Lib.hid ho
          have HBR := Lib.hid hB
          clear ho hB
          go_wp2_with (at_builtin; go_must (refine wpList_append_own_at _ rfl (.tmp 14) (.tmp 20) 37 rfl w.heap.size 5 i0 (.int .u8 0) 1 1 Tryz.underlying37 Hi.out Hz0.out Hz1.out Hz2.out rfl (by omega) u6 0 _ rfl (by exact World.ownsRow.alloc (w := wr) HOR.out _) ⟨wr.heap.size, 0, none⟩ 1 1 [.int .u8 3] rfl ?hl ?hn ?h1c ?h63 ?hb ?hbase ?next))
          case hl => rfl
          case hn =>
            intro j v hv
            rw [OW.addr_off, Nat.zero_add, cell_of_row _ _ _ _ _ _ (Go.heap_alloc_new wr _)]
            simpa using hv
          case h1c => intro u hu; simp at hu; subst hu; rfl
          case h63 => simp only [maxLen]; omega
          case hb => omega
          case hbase => simp; have := HBR.out.size; omega
          case next =>
            intro v' w' hown hg _ hat
            have hB : Below w.heap.size w w' := (HBR.out.alloc HBR.out.size (.cells #[.int .u8 3] 5)).grown hg (by simp; have := HBR.out.size; omega) (fun q hq => (World.ownsRow.lt HOR.out q hq).1)
            have HO4 := Lib.hid hown
            have HB4 := Lib.hid hB
            clear hown hg hat hB
            go_wp2
            go_roundw
            case rel => exact ⟨0 + 1, by omega, by first | rfl | go_num, by simpa [bv] using HO4.out, HB4.out⟩
            case measure => simp [intOf]
        · have HOR := Lib.hid ho
          have HBR := Lib.hid hB
          clear ho hB
          go_wp2_with (at_builtin; go_must (refine wpList_append_own_at _ rfl (.tmp 14) (.tmp 20) 37 rfl w.heap.size 5 i0 (.int .u8 0) 1 1 Tryz.underlying37 Hi.out Hz0.out Hz1.out Hz2.out rfl (by omega) u6 1 _ rfl (by exact World.ownsRow.alloc (w := wr) HOR.out _) ⟨wr.heap.size, 0, none⟩ 1 1 [.int .u8 232] rfl ?hl ?hn ?h1c ?h63 ?hb ?hbase ?next))
          case hl => rfl
          case hn =>
            intro j v hv
            rw [OW.addr_off, Nat.zero_add, cell_of_row _ _ _ _ _ _ (Go.heap_alloc_new wr _)]
            simpa using hv
          case h1c => intro u hu; simp at hu; subst hu; rfl
          case h63 => simp only [maxLen]; omega
          case hb => omega
          case hbase => simp; have := HBR.out.size; omega
          case next =>
            intro v' w' hown hg _ hat
            have hB : Below w.heap.size w w' := (HBR.out.alloc HBR.out.size (.cells #[.int .u8 232] 5)).grown hg (by simp; have := HBR.out.size; omega) (fun q hq => (World.ownsRow.lt HOR.out q hq).1)
            have HO4 := Lib.hid hown
            have HB4 := Lib.hid hB
            clear hown hg hat hB
            go_wp2
            go_roundw
            case rel => exact ⟨1 + 1, by omega, by first | rfl | go_num, by simpa [bv] using HO4.out, HB4.out⟩
            case measure => simp [intOf]
        · obtain ⟨A2, c2, rfl⟩ := OW.slice ho
          obtain ⟨g2, rfl⟩ : ∃ g2, A2 = some ⟨g2, 0, none⟩ := by
            rcases ho.2 with ⟨_, hh⟩ | ⟨g2, cap, cur, hv, _⟩
            · omega
            · injection hv with h4 h5 h6
              exact ⟨g2, h4⟩
          have CR := Lib.hid (out_raw base ob g2 0 2 c2 xs _ wr (HO.out.below hB) rfl (fun j v hv => by
            have := ho.cells (g := g2) rfl j v hv
            rwa [OW.addr_off] at this) (by omega))
          have HBR := Lib.hid (hB.mono hb)
          clear ho hB
          go_wp2_with fail
          refine CR.out.mono ?_
          rintro e w1 ⟨rfl, hO, hB⟩
          have HO1 := Lib.hid hO
          have HB1 := Lib.hid (HBR.out.trans hB)
          clear hO hB CR
          go_wp2
          go_end0
          exact ⟨rfl, HO1.out, HB1.out⟩
    · show Calls Tryz.prog 210 #[.pointer (some ⟨ob, 0, none⟩), .int .u64 53, .int .i64 2] w _
      go_enter Tryz.func210, Tryz.ntmps210
      go_wp2_with fail
      go_loopw [6, 7] (fun s t wr => ∃ k : Nat, k ≤ 2 ∧ t = .int .i64 (1 - (k : Int)) ∧ wr.ownsRow w.heap.size 5 1 s k (bv ([0, 53].take k)) ∧ Below w.heap.size w wr) (fun _ t _ => (intOf t + 1).toNat)
      case atStart => exact ⟨0, by omega, rfl, World.ownsRow_nil _ _ _ _, Below.refl _ _⟩
      case round =>
        obtain ⟨k, hk, rfl, ho, hB⟩ := hrel
        rcases (show k = 0 ∨ k = 1 ∨ k = 2 by omega) with rfl | rfl | rfl
        · have HOR := Lib.hid ho
          have HBR := Lib.hid hB
          clear ho hB
          go_wp2_with (at_builtin; go_must (refine wpList_append_own_at _ rfl (.tmp 14) (.tmp 20) 37 rfl w.heap.size 5 i0 (.int .u8 0) 1 1 Tryz.underlying37 Hi.out Hz0.out Hz1.out Hz2.out rfl (by omega) u6 0 _ rfl (by exact World.ownsRow.alloc (w := wr) HOR.out _) ⟨wr.heap.size, 0, none⟩ 1 1 [.int .u8 0] rfl ?hl ?hn ?h1c ?h63 ?hb ?hbase ?next))
          case hl => rfl
          case hn =>
            intro j v hv
            rw [OW.addr_off, Nat.zero_add, cell_of_row _ _ _ _ _ _ (Go.heap_alloc_new wr _)]
            simpa using hv
          case h1c => intro u hu; simp at hu; subst hu; rfl
          case h63 => simp only [maxLen]; omega
          case hb => omega
          case hbase => simp; have := HBR.out.size; omega
          case next =>
            intro v' w' hown hg _ hat
            have hB : Below w.heap.size w w' := (HBR.out.alloc HBR.out.size (.cells #[.int .u8 0] 5)).grown hg (by simp; have := HBR.out.size; omega) (fun q hq => (World.ownsRow.lt HOR.out q hq).1)
            have HO4 := Lib.hid hown
            have HB4 := Lib.hid hB
            clear hown hg hat hB
            go_wp2
            go_roundw
            case rel => exact ⟨0 + 1, by omega, by first | rfl | go_num, by simpa [bv] using HO4.out, HB4.out⟩
            case measure => simp [intOf]
        · have HOR := Lib.hid ho
          have HBR := Lib.hid hB
          clear ho hB
          go_wp2_with (at_builtin; go_must (refine wpList_append_own_at _ rfl (.tmp 14) (.tmp 20) 37 rfl w.heap.size 5 i0 (.int .u8 0) 1 1 Tryz.underlying37 Hi.out Hz0.out Hz1.out Hz2.out rfl (by omega) u6 1 _ rfl (by exact World.ownsRow.alloc (w := wr) HOR.out _) ⟨wr.heap.size, 0, none⟩ 1 1 [.int .u8 53] rfl ?hl ?hn ?h1c ?h63 ?hb ?hbase ?next))
          case hl => rfl
          case hn =>
            intro j v hv
            rw [OW.addr_off, Nat.zero_add, cell_of_row _ _ _ _ _ _ (Go.heap_alloc_new wr _)]
            simpa using hv
          case h1c => intro u hu; simp at hu; subst hu; rfl
          case h63 => simp only [maxLen]; omega
          case hb => omega
          case hbase => simp; have := HBR.out.size; omega
          case next =>
            intro v' w' hown hg _ hat
            have hB : Below w.heap.size w w' := (HBR.out.alloc HBR.out.size (.cells #[.int .u8 53] 5)).grown hg (by simp; have := HBR.out.size; omega) (fun q hq => (World.ownsRow.lt HOR.out q hq).1)
            have HO4 := Lib.hid hown
            have HB4 := Lib.hid hB
            clear hown hg hat hB
            go_wp2
            go_roundw
            case rel => exact ⟨1 + 1, by omega, by first | rfl | go_num, by simpa [bv] using HO4.out, HB4.out⟩
            case measure => simp [intOf]
        · obtain ⟨A2, c2, rfl⟩ := OW.slice ho
          obtain ⟨g2, rfl⟩ : ∃ g2, A2 = some ⟨g2, 0, none⟩ := by
            rcases ho.2 with ⟨_, hh⟩ | ⟨g2, cap, cur, hv, _⟩
            · omega
            · injection hv with h4 h5 h6
              exact ⟨g2, h4⟩
          have CR := Lib.hid (out_raw base ob g2 0 2 c2 xs _ wr (HO.out.below hB) rfl (fun j v hv => by
            have := ho.cells (g := g2) rfl j v hv
            rwa [OW.addr_off] at this) (by omega))
          have HBR := Lib.hid (hB.mono hb)
          clear ho hB
          go_wp2_with fail
          refine CR.out.mono ?_
          rintro e w1 ⟨rfl, hO, hB⟩
          have HO1 := Lib.hid hO
          have HB1 := Lib.hid (HBR.out.trans hB)
          clear hO hB CR
          go_wp2
          go_end0
          exact ⟨rfl, HO1.out, HB1.out⟩)
  have HB := Lib.hid hb
  clear h hi hz0 hz1 hz2
  have hw : IntKind.u64.wrap (n : Int) = (n : Int) := by rw [IntKind.wrap_u64]; rcases hn with ⟨rfl, _⟩ | ⟨rfl, _⟩ <;> rfl
  go_enter Tryz.func207, Tryz.ntmps207
  go_wp2_with fail
  refine C.out.mono ?_
  rintro e w1 ⟨rfl, hO, hB⟩
  have HO1 := Lib.hid hO
  have HB1 := Lib.hid hB
  clear hO hB C
  go_wp2
  go_end0
  exact ⟨rfl, HO1.out, HB1.out⟩
set_option maxRecDepth 100000 in
theorem out_bytes (base ob : Nat) (xs : List Nat) (w : World) (h : OutAt w base ob xs) (h1 : 1 ≤ xs.length) (hm : xs.length ≤ 1000) :
    Calls Tryz.prog 208 #[.pointer (some ⟨ob, 0, none⟩)] w fun e w' => ∃ u, e = .returned u ∧ w'.ownsRow w.heap.size 5 1 u xs.length (bv xs) ∧ Below w.heap.size w w' := by
  obtain ⟨u, h2, h3, h4⟩ := h
  obtain ⟨A2, c2, rfl⟩ := OW.slice h4
  obtain ⟨g2, rfl, hg2⟩ : ∃ g2, A2 = some ⟨g2, 0, none⟩ ∧ g2 < w.heap.size := by
    rcases h4.2 with ⟨_, hh⟩ | ⟨g2, cap, cur, hv, _, hh, _⟩
    · omega
    · injection hv with h5 h6 h7
      exact ⟨g2, h5, (Array.getElem?_eq_some_iff.1 hh).1⟩
  have C := Lib.hid (clone_bytes ⟨g2, 0, none⟩ xs.length c2 (bv xs) w bv_len (fun j v hv => h4.cells (g := g2) rfl j v hv) bv_one (by omega) hg2)
  have k0 := cells_of_row h2 0 _ rfl
  clear h2 h4
  go_enter Tryz.func208, Tryz.ntmps208
  go_wp2_with fail
  refine C.out.mono ?_
  rintro e w1 ⟨u, rfl, ho, hB⟩
  have HO := Lib.hid ho
  have HB := Lib.hid hB
  clear ho hB C
  go_wp2
  go_ret
  exact ⟨u, rfl, HO.out, HB.out⟩
/-- The 14 bytes of a flow's key. -/
def keyL (s0 s1 s2 s3 d0 d1 d2 d3 : Nat) : List Nat := [4, 17, s0, s1, s2, s3, d0, d1, d2, d3, 3, 232, 0, 53]
def keyF (s0 s1 s2 s3 d0 d1 d2 d3 : Nat) (j : Nat) : Nat := (keyL s0 s1 s2 s3 d0 d1 d2 d3).getD j 0
set_option maxRecDepth 100000 in
set_option maxHeartbeats 2000000 in
theorem key_flow (s0 s1 s2 s3 d0 d1 d2 d3 : Nat) (hs : s0 < 256 ∧ s1 < 256 ∧ s2 < 256 ∧ s3 < 256) (hd : d0 < 256 ∧ d1 < 256 ∧ d2 < 256 ∧ d3 < 256) : KeyOf (flowX s0 s1 s2 s3 d0 d1 d2 d3 1000 53) (keyF s0 s1 s2 s3 d0 d1 d2 d3) := by
  refine ⟨rfl, flow_all _ _ _ _ _ _ _ _ _ _, fun w => ?_⟩
  have hby : ∀ j, keyF s0 s1 s2 s3 d0 d1 d2 d3 j < 256 := fun j => by
    unfold keyF keyL
    rcases (show j = 0 ∨ j = 1 ∨ j = 2 ∨ j = 3 ∨ j = 4 ∨ j = 5 ∨ j = 6 ∨ j = 7 ∨ j = 8 ∨ j = 9 ∨ j = 10 ∨ j = 11 ∨ j = 12 ∨ j = 13 ∨ 14 ≤ j by omega) with rfl | rfl | rfl | rfl | rfl | rfl | rfl | rfl | rfl | rfl | rfl | rfl | rfl | rfl | hj
    all_goals first | (simp; done) | (simp; omega) | (rw [List.getD_eq_getElem?_getD, List.getElem?_eq_none (by simpa using hj)]; decide)
  have HBY := Lib.hid hby
  have f0 : (flowX s0 s1 s2 s3 d0 d1 d2 d3 1000 53)[0]? = some (.bool false) := rfl
  have f1 : (flowX s0 s1 s2 s3 d0 d1 d2 d3 1000 53)[1]? = some (.int .u8 17) := rfl
  have fs : ∀ (j : Nat) (v : Value), (bv [s0, s1, s2, s3])[j]? = some v → (flowX s0 s1 s2 s3 d0 d1 d2 d3 1000 53)[2 + j]? = some v := fun j v hv => by
    rcases (show j = 0 ∨ j = 1 ∨ j = 2 ∨ j = 3 ∨ 4 ≤ j by omega) with rfl | rfl | rfl | rfl | hj
    · exact hv
    · exact hv
    · exact hv
    · exact hv
    · rw [List.getElem?_eq_none (by simpa [bv] using hj)] at hv; cases hv
  have fd : ∀ (j : Nat) (v : Value), (bv [d0, d1, d2, d3])[j]? = some v → (flowX s0 s1 s2 s3 d0 d1 d2 d3 1000 53)[18 + j]? = some v := fun j v hv => by
    rcases (show j = 0 ∨ j = 1 ∨ j = 2 ∨ j = 3 ∨ 4 ≤ j by omega) with rfl | rfl | rfl | rfl | hj
    · exact hv
    · exact hv
    · exact hv
    · exact hv
    · rw [List.getElem?_eq_none (by simpa [bv] using hj)] at hv; cases hv
  have f34 : (flowX s0 s1 s2 s3 d0 d1 d2 d3 1000 53)[34]? = some (.int .u16 1000) := rfl
  have f35 : (flowX s0 s1 s2 s3 d0 d1 d2 d3 1000 53)[35]? = some (.int .u16 53) := rfl
  have F0 := Lib.hid f0
  have F1 := Lib.hid f1
  have FS := Lib.hid fs
  have FD := Lib.hid fd
  have F34 := Lib.hid f34
  have F35 := Lib.hid f35
  clear f0 f1 fs fd f34 f35 hby
  generalize flowX s0 s1 s2 s3 d0 d1 d2 d3 1000 53 = fl at *
  go_enter Tryz.func199, Tryz.ntmps199
  go_upto_region 1 with ((with_reducible refine arm_box 1 0 58 fl ?_ ?_); rfl; intro w1 HB HX HS)
  have k0 := cells_of_row HX.out 0 _ F0.out
  go_upto_region 5 with (fail)
  have hX2 := Go.heap_alloc_new w1 (.cells #[.slice none 0 0] 366)
  have hB2 : Below w1.heap.size w1 (w1.alloc (.cells #[.slice none 0 0] 366)) := (Below.refl _ _).alloc (Nat.le_refl _) _
  have hO2 : OutAt (w1.alloc (.cells #[.slice none 0 0] 366)) w1.heap.size w1.heap.size [] := ⟨_, hX2, Nat.le_refl _, World.ownsRow_nil _ _ _ _⟩
  have HO2 := Lib.hid hO2
  have HB2 := Lib.hid hB2
  have hs2 : w1.heap.size ≤ (w1.alloc (.cells #[.slice none 0 0] 366)).heap.size := hB2.size
  clear hX2 hB2 hO2 k0
  generalize w1.alloc (.cells #[.slice none 0 0] 366) = w2 at *
  have C2 : Hid (Calls Tryz.prog 205 #[.pointer (some ⟨w1.heap.size, 0, none⟩), .int .u8 4] w2 fun e w' => e = .returned (.tuple #[]) ∧ OutAt w' w1.heap.size w1.heap.size [4] ∧ Below w1.heap.size w2 w') := Lib.hid (out_u8 w1.heap.size w1.heap.size 4 [] w2 HO2.out hs2 (by simp))
  go_wp2_with fail
  refine C2.out.mono ?_
  rintro e w3 ⟨rfl, hO, hB⟩
  have HO3 := Lib.hid hO
  have HB3 := Lib.hid (HB2.out.trans hB)
  clear hO hB C2 HO2 HB2 hs2
  have k1 := cells_of_row ((HB3.out.block _ (Array.getElem?_eq_some_iff.1 HX.out).1).trans HX.out) 1 _ F1.out
  have C3 : Hid (Calls Tryz.prog 205 #[.pointer (some ⟨w1.heap.size, 0, none⟩), .int .u8 17] w3 fun e w' => e = .returned (.tuple #[]) ∧ OutAt w' w1.heap.size w1.heap.size [4, 17] ∧ Below w1.heap.size w3 w') := Lib.hid (out_u8 w1.heap.size w1.heap.size 17 [4] w3 HO3.out HB3.out.size (by simp))
  go_wp2_with fail
  refine C3.out.mono ?_
  rintro e w4 ⟨rfl, hO, hB⟩
  have HO4 := Lib.hid hO
  have HB4 := Lib.hid (HB3.out.trans hB)
  clear hO hB C3 HO3 HB3 k1
  have C4 : Hid (Calls Tryz.prog 206 #[.pointer (some ⟨w1.heap.size, 0, none⟩), .slice (some ⟨w.heap.size, 2, none⟩) 4 16] w4 fun e w' => e = .returned (.tuple #[]) ∧ OutAt w' w1.heap.size w1.heap.size [4, 17, s0, s1, s2, s3] ∧ Below w1.heap.size w4 w') := Lib.hid (out_raw w1.heap.size w1.heap.size w.heap.size 2 4 16 [4, 17] [s0, s1, s2, s3] w4 HO4.out rfl (fun j v hv => cells_of_row ((HB4.out.block _ (Array.getElem?_eq_some_iff.1 HX.out).1).trans HX.out) (2 + j) _ (FS.out j v hv)) (by simp))
  go_wp2_with fail
  refine C4.out.mono ?_
  rintro e w5 ⟨rfl, hO, hB⟩
  have HO5 := Lib.hid hO
  have HB5 := Lib.hid (HB4.out.trans hB)
  clear hO hB C4 HO4 HB4
  have C5 : Hid (Calls Tryz.prog 206 #[.pointer (some ⟨w1.heap.size, 0, none⟩), .slice (some ⟨w.heap.size, 18, none⟩) 4 16] w5 fun e w' => e = .returned (.tuple #[]) ∧ OutAt w' w1.heap.size w1.heap.size [4, 17, s0, s1, s2, s3, d0, d1, d2, d3] ∧ Below w1.heap.size w5 w') := Lib.hid (out_raw w1.heap.size w1.heap.size w.heap.size 18 4 16 [4, 17, s0, s1, s2, s3] [d0, d1, d2, d3] w5 HO5.out rfl (fun j v hv => cells_of_row ((HB5.out.block _ (Array.getElem?_eq_some_iff.1 HX.out).1).trans HX.out) (18 + j) _ (FD.out j v hv)) (by simp))
  go_wp2_with fail
  refine C5.out.mono ?_
  rintro e w6 ⟨rfl, hO, hB⟩
  have HO6 := Lib.hid hO
  have HB6 := Lib.hid (HB5.out.trans hB)
  clear hO hB C5 HO5 HB5
  have k34 := cells_of_row ((HB6.out.block _ (Array.getElem?_eq_some_iff.1 HX.out).1).trans HX.out) 34 _ F34.out
  have C6 : Hid (Calls Tryz.prog 207 #[.pointer (some ⟨w1.heap.size, 0, none⟩), .int .u16 1000] w6 fun e w' => e = .returned (.tuple #[]) ∧ OutAt w' w1.heap.size w1.heap.size [4, 17, s0, s1, s2, s3, d0, d1, d2, d3, 3, 232] ∧ Below w1.heap.size w6 w') := Lib.hid (out_u16 w1.heap.size w1.heap.size 1000 3 232 _ w6 HO6.out HB6.out.size (by simp) (.inl ⟨rfl, rfl, rfl⟩))
  go_wp2_with fail
  refine C6.out.mono ?_
  rintro e w7 ⟨rfl, hO, hB⟩
  have HO7 := Lib.hid hO
  have HB7 := Lib.hid (HB6.out.trans hB)
  clear hO hB C6 HO6 HB6 k34
  have k35 := cells_of_row ((HB7.out.block _ (Array.getElem?_eq_some_iff.1 HX.out).1).trans HX.out) 35 _ F35.out
  have C7 : Hid (Calls Tryz.prog 207 #[.pointer (some ⟨w1.heap.size, 0, none⟩), .int .u16 53] w7 fun e w' => e = .returned (.tuple #[]) ∧ OutAt w' w1.heap.size w1.heap.size (keyL s0 s1 s2 s3 d0 d1 d2 d3) ∧ Below w1.heap.size w7 w') := Lib.hid (out_u16 w1.heap.size w1.heap.size 53 0 53 _ w7 HO7.out HB7.out.size (by simp) (.inr ⟨rfl, rfl, rfl⟩))
  go_wp2_with fail
  refine C7.out.mono ?_
  rintro e w8 ⟨rfl, hO, hB⟩
  have HO8 := Lib.hid hO
  have HB8 := Lib.hid (HB7.out.trans hB)
  clear hO hB C7 HO7 HB7 k35
  have C8 := Lib.hid (out_bytes w1.heap.size w1.heap.size _ w8 HO8.out (by simp [keyL]) (by simp [keyL]))
  go_wp2_with fail
  refine C8.out.mono ?_
  rintro e w9 ⟨u, rfl, ho, hB⟩
  have hBf : Below w.heap.size w w9 := HB.out.trans ((HB8.out.trans (hB.mono HB8.out.size)).mono HB.out.size)
  obtain ⟨A2, c2, rfl⟩ := OW.slice ho
  obtain ⟨g2, rfl, hg2⟩ : ∃ g2, A2 = some ⟨g2, 0, none⟩ ∧ g2 < w9.heap.size := by
    rcases ho.2 with ⟨_, hh⟩ | ⟨g2, cap, cur, hv, _, hh, _⟩
    · exact absurd hh (by simp [keyL])
    · injection hv with h5 h6 h7
      exact ⟨g2, h5, (Array.getElem?_eq_some_iff.1 hh).1⟩
  have hfr : FrAt w9 g2 0 14 c2 (keyF s0 s1 s2 s3 d0 d1 d2 d3) := ⟨fun j hj => by
    have hjl : j < (keyL s0 s1 s2 s3 d0 d1 d2 d3).length := hj
    have := ho.cells (g := g2) rfl j (.int .u8 (keyF s0 s1 s2 s3 d0 d1 d2 d3 j : Nat)) (by
      unfold keyF bv
      rw [List.getElem?_map, List.getD_eq_getElem?_getD, List.getElem?_eq_getElem hjl]
      rfl)
    rw [OW.addr_off] at this
    exact this, HBY.out, OW.cap ho, hg2⟩
  have HF := Lib.hid hfr
  have HBF := Lib.hid hBf
  clear ho hB hfr hBf C8
  go_wp2
  go_ret
  exact ⟨g2, c2, rfl, HF.out, HBF.out⟩
end Go.Proofs.YtpanmfdbdgecaaaGreat.C

namespace Go.Proofs.YtpanmfdbdgecaaaGreat.C
open Go.RowKit
set_option linter.unusedVariables false
section
variable {w : World} {A : PAd} {F : PCf} {S S1 S2 S3 S4 S5 : PSt}
set_option maxRecDepth 100000 in
set_option maxHeartbeats 8000000 in
theorem arrive_light (cl : Nat) (n now : Int) (x p : Array Value) (dr : Array Value) (hx : PkP x n p) (hp : p.size = 8) (hdr : dr.size = 2) (hn : 1 ≤ n ∧ n ≤ 9216) (h : Pol w A F S) (har : 0 ≤ S.arr ∧ S.arr ≤ 4611686018427387904)
    (hwa : ∀ w', Pol w' A F { S with arr := S.arr + 1 } → Calls Tryz.prog 37 #[.pointer (some ⟨A.wb, 0, none⟩), .int .i64 now, .agg p, .int .i64 n] w' fun e w'' => e = .returned (.bool false) ∧ Pol w'' A F S1 ∧ Tur A.tg [8] w' w'')
    (hi2 : ∀ w', Pol w' A F S1 → Calls Tryz.prog 38 #[.pointer (some ⟨A.xb, 0, none⟩), .agg p, .int .i64 now] w' fun e w'' => e = .returned (.bool false) ∧ Pol w'' A F S4 ∧ Tur A.tg [9] w' w'')
    (hfr : ∀ w' vb V, Pol w' A F S4 → w'.heap[vb]? = some (.cells V 35 (0, 0)) → V.size = 6 → A.tg vb = 0 → Calls Tryz.prog 42 #[.pointer (some ⟨A.pb, 0, none⟩), .agg (seqX x S.arr), .int .i64 now, .agg dr, .pointer (some ⟨vb, 0, none⟩)] w' fun e w'' => e = .returned (.int .i64 0) ∧ Pol w'' A F S5 ∧ w''.heap[vb]? = some (.cells (V.setIfInBounds 2 (.int .i64 (cl : Nat))) 35 (0, 0)) ∧ Tur (C.exc A.tg vb 3) [3, 4, 5, 6, 7] w' w'') :
    Calls Tryz.prog 20 #[.pointer (some ⟨A.pb, 0, none⟩), .agg x, .int .i64 now, .agg dr] w fun e w' => e = .returned (.agg #[.int .i64 S.arr, .int .i64 0, .int .i64 (cl : Nat), .int .i64 (-1), .bool false, .bool false]) ∧ Pol w' A F S5 ∧ Tur A.tg [1, 3, 4, 5, 6, 7, 8, 9] w w' := by
  have HDR := Lib.hid hdr
  obtain ⟨har0, har1⟩ := har
  have hwr : IntKind.i64.wrap (S.arr + 1) = S.arr + 1 := IntWalk.i64_in _ (by omega)
  obtain ⟨ar, hara⟩ : ∃ a, S.arr = a := ⟨_, rfl⟩
  rw [hara] at har0 har1 hwr hwa hfr ⊢
  have HWA := Lib.hid hwa
  have HI2 := Lib.hid hi2
  have HFR := Lib.hid hfr
  clear hwa hi2 hfr
  have HX0 := Lib.hid hx
  have HP := Lib.hid h
  have HL := Lib.hid hx.l.len
  obtain ⟨hn0, hn1⟩ := hn
  obtain ⟨VZ0, hVZ⟩ : ∃ z, VZ = z := ⟨_, rfl⟩
  have hvz := vz_zero
  rw [hVZ] at hvz
  have HVZ := Lib.hid hvz
  have HVE := Lib.hid hVZ
  clear h hx hvz hVZ
  refine calls_hide fun Q HQ => ?_
  go_enter Tryz.func20, Tryz.ntmps20
  go_upto_region 1 with (first | ((with_reducible refine arm_box 5 1 68 x ?_ ?_); rfl; intro w1 HB HX HS) | ((with_reducible refine arm_box 7 3 41 dr ?_ ?_); rfl; intro w2 HB2 HX2 HS2) | ((with_reducible refine arm_alloc 8 35 VZ0 6 HVZ.out ?_); intro w3 HB3 HX3 HS3))
  have k1 := cells_of_row (keep_block HB3.out (keep_block HB2.out HX.out)) 45 _ HL.out
  go_upto_region 3 with (fail)
  have B3 := Lib.hid ((HB.out.trans (HB2.out.mono HB.out.size)).trans (HB3.out.mono (Nat.le_trans HB.out.size HB2.out.size)))
  have X3 := Lib.hid (keep_block HB3.out (keep_block HB2.out HX.out))
  have R3 := Lib.hid HX3.out
  have D3 := Lib.hid (keep_block HB3.out HX2.out)
  have hs1 := HS.out
  have hs2 := HS2.out
  have hs3 := HS3.out
  have hlim := HP.out.lim
  have HP3 := Lib.hid (HP.out.below B3.out)
  have k28 := HP3.out.c28
  obtain ⟨x0, hx0⟩ : ∃ v, x[0]? = some v := ⟨_, Array.getElem?_eq_getElem (by have := HX0.out.l.pk.size; omega)⟩
  have cx3 := cells_of_row X3.out 0 _ hx0
  have fx3 : w3.frozen? ⟨w.heap.size, 0, none⟩ = false := frozen_of_row _ _ _ _ _ X3.out
  rw [hara] at k28
  generalize w2.heap.size = rb at *
  generalize w1.heap.size = db at *
  clear HB HX HB2 HX2 HB3 HX3 k1 HS HS2 HS3
  go_upto_region 4 with (fail)
  have HPX := Lib.hid (HX0.out.seq ar)
  have hXC := HX0.out.c0 ar
  have X4 : Hid ((w3.setCell ⟨w.heap.size, 0, none⟩ (.int .i64 ar)).heap[w.heap.size]? = some (.cells (seqX x ar) 68 (0, 0))) := Lib.hid (by rw [heap_setCell_same _ _ _ _ _ _ X3.out]; rfl)
  have R4 : Hid ((w3.setCell ⟨w.heap.size, 0, none⟩ (.int .i64 ar)).heap[rb]? = some (.cells VZ0 35 (0, 0))) := Lib.hid (by rw [heap_setCell_other _ _ _ _ (by simp; omega)]; exact R3.out)
  have D4 : Hid ((w3.setCell ⟨w.heap.size, 0, none⟩ (.int .i64 ar)).heap[db]? = some (.cells dr 41 (0, 0))) := Lib.hid (by rw [heap_setCell_other _ _ _ _ (by simp; omega)]; exact D3.out)
  have T4 : Tur A.tg [0] w3 (w3.setCell ⟨w.heap.size, 0, none⟩ (.int .i64 ar)) := Tur.of_two (Two.setCell (g := w.heap.size) (h := w.heap.size) (x := ⟨w.heap.size, 0, none⟩) (Two.refl _ _ w3) (.inl rfl) (.int .i64 ar)) (by simp [HP.out.ok.hi _ hlim]) (by simp [HP.out.ok.hi _ hlim])
  have HP4 : Hid (Pol (w3.setCell ⟨w.heap.size, 0, none⟩ (.int .i64 ar)) A F S) := Lib.hid (HP3.out.tur T4 (by intro k h1 h2; simp; omega))
  have B4 : Hid (Below w.heap.size w (w3.setCell ⟨w.heap.size, 0, none⟩ (.int .i64 ar))) := Lib.hid (B3.out.setCell (Nat.le_refl _) _)
  have hs4 : (w3.setCell ⟨w.heap.size, 0, none⟩ (.int .i64 ar)).heap.size = rb + 1 := by simpa using hs3
  clear k28 cx3 fx3 hx0 T4 B3 HP3 R3 D3 X3 hs3
  generalize w3.setCell ⟨w.heap.size, 0, none⟩ (.int .i64 ar) = w4 at *
  have k28 := HP4.out.c28
  have f28 := HP4.out.fr 28
  rw [hara] at k28
  go_upto_region 5 with (fail)
  obtain ⟨hP5, hT5⟩ := HP4.out.setArr (ar + 1)
  have X5 : Hid ((w4.setCell ⟨A.pb, 28, none⟩ (.int .i64 (ar + 1))).heap[w.heap.size]? = some (.cells (seqX x ar) 68 (0, 0))) := Lib.hid (hT5.keep X4.out (by rw [HP.out.ok.hi _ hlim]; decide))
  have R5 : Hid ((w4.setCell ⟨A.pb, 28, none⟩ (.int .i64 (ar + 1))).heap[rb]? = some (.cells VZ0 35 (0, 0))) := Lib.hid (hT5.keep R4.out (by rw [HP.out.ok.hi _ (by omega)]; decide))
  have D5 : Hid ((w4.setCell ⟨A.pb, 28, none⟩ (.int .i64 (ar + 1))).heap[db]? = some (.cells dr 41 (0, 0))) := Lib.hid (hT5.keep D4.out (by rw [HP.out.ok.hi _ (by omega)]; decide))
  have HP5 := Lib.hid hP5
  have T5 : Hid (Tur A.tg [1, 3, 4, 5, 6, 7, 8, 9] w (w4.setCell ⟨A.pb, 28, none⟩ (.int .i64 (ar + 1)))) := Lib.hid ((Tur.of_below B4.out).trans (hT5.sub (by simp)))
  have hs5 : (w4.setCell ⟨A.pb, 28, none⟩ (.int .i64 (ar + 1))).heap.size = rb + 1 := by simpa using hs4
  clear k28 f28 hP5 hT5 X4 R4 D4 HP4 B4 hs4
  generalize w4.setCell ⟨A.pb, 28, none⟩ (.int .i64 (ar + 1)) = w5 at *
  have k0 := cells_of_row X5.out 0 _ hXC
  have HS5 := Lib.hid (And.intro hs5 (And.intro hs1 hs2))
  have HDB : Hid (w.heap.size < db) := Lib.hid (by omega)
  have HDV : Hid (db < rb) := Lib.hid (by omega)
  clear hs5 hs1 hs2
  go_upto_region 6 with (fail)
  have p6 : Below w5.heap.size w5 (w5.alloc (.cells #[.int .i64 ar, .int .i64 0, .int .i64 (-1), .int .i64 (-1), .bool false, .bool false] 35)) := (Below.refl _ _).alloc (Nat.le_refl _) _
  have V6 := Lib.hid (Go.heap_alloc_new w5 (.cells #[.int .i64 ar, .int .i64 0, .int .i64 (-1), .int .i64 (-1), .bool false, .bool false] 35))
  have HP6 := Lib.hid (HP5.out.below p6)
  have X6 := Lib.hid (keep_block p6 X5.out)
  have R6 := Lib.hid (keep_block p6 R5.out)
  have D6 := Lib.hid (keep_block p6 D5.out)
  have T6 := Lib.hid (T5.out.below p6)
  clear k0 p6 X5 R5 D5 HP5 T5
  generalize w5.alloc _ = w6 at *
  generalize w5.heap.size = vb at *
  have hbx : w.heap.size < rb := by have := HS5.out; omega
  have hvb : rb < vb := by have := HS5.out; omega
  clear HS5
  have hz1 : A.tg w.heap.size = 0 := HP.out.ok.hi _ hlim
  have hzd : A.tg db = 0 := HP.out.ok.hi _ (by have := HDB.out; omega)
  have hz2 : A.tg rb = 0 := HP.out.ok.hi _ (by omega)
  have hz3 : A.tg vb = 0 := HP.out.ok.hi _ (by omega)
  have HL1 : Hid (∀ w', Tur A.tg [8] w6 w' → w'.cell? ⟨A.pb, 26, none⟩ = some (.pointer (some ⟨A.wb, 0, none⟩)) ∧ w'.cell? ⟨w.heap.size, 45, none⟩ = some (.int .i64 n) ∧ (Instr.loadAt 65 (.pointer (some ⟨w.heap.size, 37, none⟩))).run Tryz.prog w' = .ok (.agg p) w') := Lib.hid fun w' q =>
    have hb := q.keep X6.out (by rw [hz1]; decide)
    ⟨cells_of_row ((HP6.out.rest q).ptr (by decide)) 26 _ (polC_hi HP6.out 6), cells_of_row hb 45 _ HPX.out.l.len, HPX.out.load hp hb⟩
  go_wp2_with fail
  refine wp_region_held_drew (S := Tur A.tg [8] w6) (by kernel_rfl) (Tur.refl _ _ _).drew (fun hHeld => ?_)
  refine wpAnyH_take (i := 0) (oi := ⟨some 39, _, _, _, _, _⟩) (v := ?_) rfl (by kernel_rfl) (by kernel_rfl) (by kernel_rfl) (fun _ _ _ h => h) (Or.inl ⟨by rfl, ?_⟩) hHeld ?_
  rotate_left
  · intro w hSw
    go_simp
    try with_reducible rfl
  try simp only [Act.put, List.setIfInBounds_toArray, List.set_cons_zero, List.set_cons_succ]
  refine wpAnyH_take (i := 1) (oi := ⟨some 40, _, _, _, _, _⟩) (v := ?_) rfl (by kernel_rfl) (by kernel_rfl) (by kernel_rfl) (fun _ _ _ h => h) (Or.inl ⟨by rfl, ?_⟩) hHeld ?_
  rotate_left
  · intro w hSw
    go_simp
    try with_reducible rfl
  try simp only [Act.put, List.setIfInBounds_toArray, List.set_cons_zero, List.set_cons_succ]
  refine wpAnyH_take (i := 2) (oi := ⟨some 41, _, _, _, _, _⟩) (v := ?_) rfl (by kernel_rfl) (by kernel_rfl) (by kernel_rfl) (fun _ _ _ h => h) (Or.inl ⟨by rfl, ?_⟩) hHeld ?_
  rotate_left
  · intro w hSw
    go_simp
    try with_reducible rfl
  try simp only [Act.put, List.setIfInBounds_toArray, List.set_cons_zero, List.set_cons_succ]
  refine wpAnyH_take (i := 3) (oi := ⟨some 42, _, _, _, _, _⟩) (v := ?_) rfl (by kernel_rfl) (by kernel_rfl) (by kernel_rfl) (fun _ _ _ h => h) (Or.inl ⟨by rfl, ?_⟩) hHeld ?_
  rotate_left
  · intro w hSw
    obtain ⟨k0, k1, _⟩ := HL1.out w hSw
    go_simp
    try with_reducible rfl
  try simp only [Act.put, List.setIfInBounds_toArray, List.set_cons_zero, List.set_cons_succ]
  refine wpAnyH_take (i := 4) (oi := ⟨some 43, _, _, _, _, _⟩) (v := ?_) rfl (by kernel_rfl) (by kernel_rfl) (by kernel_rfl) (fun _ _ _ h => h) (Or.inl ⟨by rfl, ?_⟩) hHeld ?_
  rotate_left
  · intro w hSw
    go_simp
    try with_reducible rfl
  try simp only [Act.put, List.setIfInBounds_toArray, List.set_cons_zero, List.set_cons_succ]
  refine wpAnyH_take (i := 5) (oi := ⟨some 44, _, _, _, _, _⟩) (v := ?_) rfl (by kernel_rfl) (by kernel_rfl) (by kernel_rfl) (fun _ _ _ h => h) (Or.inl ⟨by rfl, ?_⟩) hHeld ?_
  rotate_left
  · intro w hSw
    go_simp
    try with_reducible rfl
  try simp only [Act.put, List.setIfInBounds_toArray, List.set_cons_zero, List.set_cons_succ]
  refine wpAnyH_take (i := 6) (oi := ⟨some 45, _, _, _, _, _⟩) (v := .agg p) rfl (by kernel_rfl) (by kernel_rfl) (by kernel_rfl) (fun _ _ _ h => h) (Or.inl ⟨by rfl, fun w hSw => exec_load rfl (HL1.out w hSw).2.2⟩) hHeld ?_
  try simp only [Act.put, List.setIfInBounds_toArray, List.set_cons_zero, List.set_cons_succ]
  refine wpAnyH_take (i := 7) (oi := ⟨some 46, _, _, _, _, _⟩) (v := ?_) rfl (by kernel_rfl) (by kernel_rfl) (by kernel_rfl) (fun _ _ _ h => h) (Or.inl ⟨by rfl, ?_⟩) hHeld ?_
  rotate_left
  · intro w hSw
    go_simp
    try with_reducible rfl
  try simp only [Act.put, List.setIfInBounds_toArray, List.set_cons_zero, List.set_cons_succ]
  refine wpAnyH_take (i := 8) (oi := ⟨some 47, _, _, _, _, _⟩) (v := ?_) rfl (by kernel_rfl) (by kernel_rfl) (by kernel_rfl) (fun _ _ _ h => h) (Or.inl ⟨by rfl, ?_⟩) hHeld ?_
  rotate_left
  · intro w hSw
    obtain ⟨k0, k1, _⟩ := HL1.out w hSw
    go_simp
    try with_reducible rfl
  try simp only [Act.put, List.setIfInBounds_toArray, List.set_cons_zero, List.set_cons_succ]
  refine wpAnyH_ready (rs := [9]) (by kernel_rfl) (by simp) ?_
  refine AllReadyH.cons rfl (fun K hK => ?_) AllReadyH.nil
  go_simp
  go_wp2_with (go_at_call 37; go_must (refine (HWA.out _ HP6.out.drew).mono ?_; rintro e w9 ⟨rfl, hP9, hT9⟩))
  refine hK.out _ _ (hHeld.trans hT9) (fun hHeld => ?_)
  clear hK K
  refine wpAnyH_take (i := 10) (oi := ⟨some 10, _, _, _, _, _⟩) (v := ?_) rfl (by kernel_rfl) (by kernel_rfl) (by kernel_rfl) (fun _ _ _ h => h) (Or.inl ⟨by rfl, ?_⟩) hHeld ?_
  rotate_left
  · intro w hSw
    go_simp
    try with_reducible rfl
  try simp only [Act.put, List.setIfInBounds_toArray, List.set_cons_zero, List.set_cons_succ]
  refine wpAnyH_done (by kernel_rfl) ?_ _
  have HP9 := Lib.hid hP9
  have X9 := Lib.hid (hHeld.keep X6.out (by rw [hz1]; decide))
  have R9 := Lib.hid (hHeld.keep R6.out (by rw [hz2]; decide))
  have D9 := Lib.hid (hHeld.keep D6.out (by rw [hzd]; decide))
  have V9 := Lib.hid (hHeld.keep V6.out (by rw [hz3]; decide))
  have T9 := Lib.hid (T6.out.trans (hHeld.sub (js := [1, 3, 4, 5, 6, 7, 8, 9]) (by simp)))
  have hsz9 := Nat.lt_of_lt_of_le (Array.getElem?_eq_some_iff.1 V6.out).1 hHeld.size
  clear hHeld hP9 hT9 HL1 HP6 X6 R6 D6 V6 T6 HWA
  generalize w9 = wa at *
  go_wp2_with fail
  refine wp_region_held_drew (S := Tur A.tg [9] wa) (by kernel_rfl) (Tur.refl _ _ _).drew (fun hHeld => ?_)
  refine wpAnyH_take (i := 0) (oi := ⟨some 49, _, _, _, _, _⟩) (v := ?_) rfl (by kernel_rfl) (by kernel_rfl) (by kernel_rfl) (fun _ _ _ h => h) (Or.inl ⟨by rfl, ?_⟩) hHeld ?_
  rotate_left
  · intro w hSw
    go_simp
    try with_reducible rfl
  try simp only [Act.put, List.setIfInBounds_toArray, List.set_cons_zero, List.set_cons_succ]
  refine wpAnyH_take (i := 1) (oi := ⟨some 50, _, _, _, _, _⟩) (v := ?_) rfl (by kernel_rfl) (by kernel_rfl) (by kernel_rfl) (fun _ _ _ h => h) (Or.inl ⟨by rfl, ?_⟩) hHeld ?_
  rotate_left
  · intro w hSw
    go_simp
    try with_reducible rfl
  try simp only [Act.put, List.setIfInBounds_toArray, List.set_cons_zero, List.set_cons_succ]
  refine wpAnyH_take (i := 2) (oi := ⟨some 51, _, _, _, _, _⟩) (v := undef) rfl (by kernel_rfl) (by kernel_rfl) (by kernel_rfl) (fun _ _ _ h => h) (Or.inr ⟨by rfl, rfl⟩) hHeld ?_
  try simp only [Act.put, List.setIfInBounds_toArray, List.set_cons_zero, List.set_cons_succ]
  refine wpAnyH_take (i := 3) (oi := ⟨some 52, _, _, _, _, _⟩) (v := undef) rfl (by kernel_rfl) (by kernel_rfl) (by kernel_rfl) (fun _ _ _ h => h) (Or.inr ⟨by rfl, rfl⟩) hHeld ?_
  try simp only [Act.put, List.setIfInBounds_toArray, List.set_cons_zero, List.set_cons_succ]
  refine wpAnyH_take (i := 4) (oi := ⟨some 53, _, _, _, _, _⟩) (v := undef) rfl (by kernel_rfl) (by kernel_rfl) (by kernel_rfl) (fun _ _ _ h => h) (Or.inr ⟨by rfl, rfl⟩) hHeld ?_
  try simp only [Act.put, List.setIfInBounds_toArray, List.set_cons_zero, List.set_cons_succ]
  refine wpAnyH_take (i := 5) (oi := ⟨some 54, _, _, _, _, _⟩) (v := undef) rfl (by kernel_rfl) (by kernel_rfl) (by kernel_rfl) (fun _ _ _ h => h) (Or.inr ⟨by rfl, rfl⟩) hHeld ?_
  try simp only [Act.put, List.setIfInBounds_toArray, List.set_cons_zero, List.set_cons_succ]
  refine wpAnyH_take (i := 6) (oi := ⟨some 55, _, _, _, _, _⟩) (v := undef) rfl (by kernel_rfl) (by kernel_rfl) (by kernel_rfl) (fun _ _ _ h => h) (Or.inr ⟨by rfl, rfl⟩) hHeld ?_
  try simp only [Act.put, List.setIfInBounds_toArray, List.set_cons_zero, List.set_cons_succ]
  refine wpAnyH_take (i := 7) (oi := ⟨some 56, _, _, _, _, _⟩) (v := undef) rfl (by kernel_rfl) (by kernel_rfl) (by kernel_rfl) (fun _ _ _ h => h) (Or.inr ⟨by rfl, rfl⟩) hHeld ?_
  try simp only [Act.put, List.setIfInBounds_toArray, List.set_cons_zero, List.set_cons_succ]
  refine wpAnyH_take (i := 8) (oi := ⟨some 57, _, _, _, _, _⟩) (v := undef) rfl (by kernel_rfl) (by kernel_rfl) (by kernel_rfl) (fun _ _ _ h => h) (Or.inr ⟨by rfl, rfl⟩) hHeld ?_
  try simp only [Act.put, List.setIfInBounds_toArray, List.set_cons_zero, List.set_cons_succ]
  refine wpAnyH_take (i := 9) (oi := ⟨some 58, _, _, _, _, _⟩) (v := undef) rfl (by kernel_rfl) (by kernel_rfl) (by kernel_rfl) (fun _ _ _ h => h) (Or.inr ⟨by rfl, rfl⟩) hHeld ?_
  try simp only [Act.put, List.setIfInBounds_toArray, List.set_cons_zero, List.set_cons_succ]
  refine wpAnyH_take (i := 10) (oi := ⟨some 59, _, _, _, _, _⟩) (v := undef) rfl (by kernel_rfl) (by kernel_rfl) (by kernel_rfl) (fun _ _ _ h => h) (Or.inr ⟨by rfl, rfl⟩) hHeld ?_
  try simp only [Act.put, List.setIfInBounds_toArray, List.set_cons_zero, List.set_cons_succ]
  refine wpAnyH_take (i := 11) (oi := ⟨some 60, _, _, _, _, _⟩) (v := ?_) rfl (by kernel_rfl) (by kernel_rfl) (by kernel_rfl) (fun _ _ _ h => h) (Or.inl ⟨by rfl, ?_⟩) hHeld ?_
  rotate_left
  · intro w hSw
    go_simp
    try with_reducible rfl
  try simp only [Act.put, List.setIfInBounds_toArray, List.set_cons_zero, List.set_cons_succ]
  refine wpAnyH_done (by kernel_rfl) ?_ _
  have HPD := Lib.hid HP9.out.drew
  have XD := Lib.hid (hHeld.keep X9.out (by rw [hz1]; decide))
  have RD := Lib.hid (hHeld.keep R9.out (by rw [hz2]; decide))
  have DD := Lib.hid (hHeld.keep D9.out (by rw [hzd]; decide))
  have VD := Lib.hid (hHeld.keep V9.out (by rw [hz3]; decide))
  have TD := Lib.hid (T9.out.trans (hHeld.sub (js := [1, 3, 4, 5, 6, 7, 8, 9]) (by simp)))
  clear hHeld HP9 X9 R9 D9 V9 T9 hsz9
  generalize wa.drew = wd at *
  have HLD : Hid (∀ w', Tur A.tg [9] wd w' → w'.cell? ⟨A.pb, 27, none⟩ = some (.pointer (some ⟨A.xb, 0, none⟩)) ∧ (Instr.loadAt 65 (.pointer (some ⟨w.heap.size, 37, none⟩))).run Tryz.prog w' = .ok (.agg p) w') := Lib.hid fun w' q => by
    have hb := q.keep XD.out (by rw [hz1]; decide)
    have ho := HPD.out.ok.pb
    exact ⟨cells_of_row (q.keep HPD.out.ptr (by rw [ho]; decide)) 27 _ (polC_hi HPD.out 7), HPX.out.load hp hb⟩
  go_wp2_with fail
  refine wp_region_held_drew (S := Tur A.tg [9] wd) (by kernel_rfl) (Tur.refl _ _ _).drew (fun hHeld => ?_)
  refine wpAnyH_take (i := 0) (oi := ⟨some 75, _, _, _, _, _⟩) (v := ?_) rfl (by kernel_rfl) (by kernel_rfl) (by kernel_rfl) (fun _ _ _ h => h) (Or.inl ⟨by rfl, ?_⟩) hHeld ?_
  rotate_left
  · intro w hSw
    go_simp
    try with_reducible rfl
  try simp only [Act.put, List.setIfInBounds_toArray, List.set_cons_zero, List.set_cons_succ]
  refine wpAnyH_take (i := 1) (oi := ⟨some 76, _, _, _, _, _⟩) (v := ?_) rfl (by kernel_rfl) (by kernel_rfl) (by kernel_rfl) (fun _ _ _ h => h) (Or.inl ⟨by rfl, ?_⟩) hHeld ?_
  rotate_left
  · intro w hSw
    go_simp
    try with_reducible rfl
  try simp only [Act.put, List.setIfInBounds_toArray, List.set_cons_zero, List.set_cons_succ]
  refine wpAnyH_take (i := 2) (oi := ⟨some 77, _, _, _, _, _⟩) (v := ?_) rfl (by kernel_rfl) (by kernel_rfl) (by kernel_rfl) (fun _ _ _ h => h) (Or.inl ⟨by rfl, ?_⟩) hHeld ?_
  rotate_left
  · intro w hSw
    go_simp
    try with_reducible rfl
  try simp only [Act.put, List.setIfInBounds_toArray, List.set_cons_zero, List.set_cons_succ]
  refine wpAnyH_take (i := 3) (oi := ⟨some 78, _, _, _, _, _⟩) (v := ?_) rfl (by kernel_rfl) (by kernel_rfl) (by kernel_rfl) (fun _ _ _ h => h) (Or.inl ⟨by rfl, ?_⟩) hHeld ?_
  rotate_left
  · intro w hSw
    obtain ⟨k0, _⟩ := HLD.out w hSw
    go_simp
    try with_reducible rfl
  try simp only [Act.put, List.setIfInBounds_toArray, List.set_cons_zero, List.set_cons_succ]
  refine wpAnyH_take (i := 4) (oi := ⟨some 79, _, _, _, _, _⟩) (v := ?_) rfl (by kernel_rfl) (by kernel_rfl) (by kernel_rfl) (fun _ _ _ h => h) (Or.inl ⟨by rfl, ?_⟩) hHeld ?_
  rotate_left
  · intro w hSw
    go_simp
    try with_reducible rfl
  try simp only [Act.put, List.setIfInBounds_toArray, List.set_cons_zero, List.set_cons_succ]
  refine wpAnyH_take (i := 5) (oi := ⟨some 80, _, _, _, _, _⟩) (v := .agg p) rfl (by kernel_rfl) (by kernel_rfl) (by kernel_rfl) (fun _ _ _ h => h) (Or.inl ⟨by rfl, fun w hSw => exec_load rfl (HLD.out w hSw).2⟩) hHeld ?_
  try simp only [Act.put, List.setIfInBounds_toArray, List.set_cons_zero, List.set_cons_succ]
  refine wpAnyH_take (i := 6) (oi := ⟨some 81, _, _, _, _, _⟩) (v := ?_) rfl (by kernel_rfl) (by kernel_rfl) (by kernel_rfl) (fun _ _ _ h => h) (Or.inl ⟨by rfl, ?_⟩) hHeld ?_
  rotate_left
  · intro w hSw
    go_simp
    try with_reducible rfl
  try simp only [Act.put, List.setIfInBounds_toArray, List.set_cons_zero, List.set_cons_succ]
  refine wpAnyH_ready (rs := [7]) (by kernel_rfl) (by simp) ?_
  refine AllReadyH.cons rfl (fun K hK => ?_) AllReadyH.nil
  go_simp
  go_wp2_with (go_at_call 38; go_must (refine (HI2.out _ HPD.out.drew).mono ?_; rintro e w7 ⟨rfl, hP7, hT7⟩))
  refine hK.out _ _ (hHeld.trans hT7) (fun hHeld => ?_)
  clear hK K
  refine wpAnyH_done (by kernel_rfl) ?_ _
  have HPE := Lib.hid hP7
  have XE := Lib.hid (hHeld.keep XD.out (by rw [hz1]; decide))
  have RE := Lib.hid (hHeld.keep RD.out (by rw [hz2]; decide))
  have DE := Lib.hid (hHeld.keep DD.out (by rw [hzd]; decide))
  have VE := Lib.hid (hHeld.keep VD.out (by rw [hz3]; decide))
  have TE := Lib.hid (TD.out.trans (hHeld.sub (js := [1, 3, 4, 5, 6, 7, 8, 9]) (by simp)))
  clear hHeld hP7 hT7 HLD HPD XD RD DD VD TD HI2
  generalize w7 = we at *
  have hld := pkt_load XE.out HPX.out.l.pk
  have hdl := box_load (t := 41) DE.out _ Tryz.underlying41 rfl (by rw [HDR.out]; kernel_rfl)
  have CFR := Lib.hid (HFR.out we vb _ HPE.out VE.out rfl hz3)
  go_wp2_with (first
    | ((with_reducible refine arm_loadg 92 5 68 (.pointer (some ⟨w.heap.size, 0, none⟩)) (.agg (seqX x ar)) hld ?_ ?_ ?_); rfl; rfl)
    | ((with_reducible refine arm_loadg 94 7 41 (.pointer (some ⟨db, 0, none⟩)) (.agg dr) hdl ?_ ?_ ?_); rfl; rfl))
  refine CFR.out.mono ?_
  rintro e w8 ⟨rfl, hP8, hV8, hT8⟩
  have HPG := Lib.hid hP8
  have RG := Lib.hid (hT8.keep RE.out (by rw [exc_ne (by omega), hz2]; decide))
  have VG : Hid (w8.heap[vb]? = some (.cells #[.int .i64 ar, .int .i64 0, .int .i64 (cl : Nat), .int .i64 (-1), .bool false, .bool false] 35 (0, 0))) := Lib.hid hV8
  have TG := Lib.hid (TE.out.trans2 (g := C.exc A.tg vb 3) (hT8.sub (js := [1, 3, 4, 5, 6, 7, 8, 9]) (by simp)) (fun k hk => exc_ne (by omega)))
  clear hP8 hV8 hT8 hld hdl HPE XE RE DE VE TE CFR HFR
  generalize w8 = wg at *
  have c1 := cells_of_row VG.out 1 _ rfl
  have f1 : wg.frozen? ⟨vb, 1, none⟩ = false := frozen_of_row _ _ _ _ _ VG.out
  go_upto_region 14 with (fail)
  have VI : Hid ((wg.setCell ⟨vb, 1, none⟩ (.int .i64 0)).heap[vb]? = some (.cells #[.int .i64 ar, .int .i64 0, .int .i64 (cl : Nat), .int .i64 (-1), .bool false, .bool false] 35 (0, 0))) := Lib.hid (by rw [heap_setCell_same _ _ _ _ _ _ VG.out]; rfl)
  have th : Tur A.tg [0] wg (wg.setCell ⟨vb, 1, none⟩ (.int .i64 0)) := Tur.of_two (Two.setCell (g := vb) (h := vb) (x := ⟨vb, 1, none⟩) (Two.refl _ _ wg) (.inl rfl) (.int .i64 0)) (by simp [hz3]) (by simp [hz3])
  have HPI := Lib.hid (HPG.out.tur th (by intro k h1 h2; simp; omega))
  have RI : Hid ((wg.setCell ⟨vb, 1, none⟩ (.int .i64 0)).heap[rb]? = some (.cells VZ0 35 (0, 0))) := Lib.hid (by rw [heap_setCell_other _ _ _ _ (by simp; omega)]; exact RG.out)
  have TI : Hid (Tur A.tg [1, 3, 4, 5, 6, 7, 8, 9] w (wg.setCell ⟨vb, 1, none⟩ (.int .i64 0))) := Lib.hid (TG.out.trans2 (f := A.tg) (g := fun k => if k = vb then 1 else A.tg k) (Tur.of_two (Two.setCell (g := vb) (h := vb) (x := ⟨vb, 1, none⟩) (Two.refl _ _ wg) (.inl rfl) (.int .i64 0)) (by simp) (by simp)) (fun k hk => if_neg (by omega)))
  clear th c1 f1 VG HPG RG TG
  generalize wg.setCell ⟨vb, 1, none⟩ (.int .i64 0) = wh at *
  have c1 := cells_of_row VI.out 1 _ rfl
  go_upto_region 16 with (fail)
  clear c1
  obtain ⟨vv, hvv⟩ : ∃ z : Array Value, #[.int .i64 ar, .int .i64 0, .int .i64 (cl : Nat), .int .i64 (-1), .bool false, .bool false] = z := ⟨_, rfl⟩
  have hvs : vv.size = 6 := by rw [← hvv]; rfl
  have hva : vv.all (·.oneCell') = true := by rw [← hvv]; kernel_rfl
  rw [hvv] at VI
  have HVV := Lib.hid hvv
  clear hvv
  have hvt : (Tryz.prog.info? 35).map (·.size) = some vv.size := by rw [hvs]; kernel_rfl
  have hld := box_load (t := 35) VI.out _ Tryz.underlying35 rfl hvt
  have hz6 : VZ0.size = vv.size := by rw [hvs, ← HVE.out]; rfl
  have hst := box_store (t := 35) (x := vv) RI.out hvt hva hz6
  have hbox := box_whole (cs := vv) RI.out hz6.symm
  have tj : Tur A.tg [0] wh (World.setCells wh rb 0 vv.toList) := Tur.of_two (Two.setCells (g := rb) (h := rb) (.inl rfl) vv.toList 0 (Two.refl _ _ _)) (by simp [hz2]) (by simp [hz2])
  have HPJ := Lib.hid (HPI.out.tur tj (by intro k h1 h2; simp; omega))
  have TJ : Hid (Tur A.tg [1, 3, 4, 5, 6, 7, 8, 9] w (World.setCells wh rb 0 vv.toList)) := Lib.hid (TI.out.trans2 (f := A.tg) (g := fun k => if k = rb then 1 else A.tg k) (Tur.of_two (Two.setCells (g := rb) (h := rb) (.inl rfl) vv.toList 0 (Two.refl _ _ _)) (by simp) (by simp)) (fun k hk => if_neg (by omega)))
  have HBXX := Lib.hid hbox
  clear hbox tj
  go_wp2_with (first | ((with_reducible refine arm_load 101 9 35 _ _ hld ?_ ?_); rfl) | ((with_reducible refine arm_store 8 101 35 _ _ _ hst ?_ ?_ ?_); rfl; rfl))
  refine bodyPost_ret (results_cell_row rfl _ _ _ _ _ _ _ rfl HBXX.out Tryz.underlying35 rfl hvt) rfl ?_
  refine HQ.out _ _ ⟨?_, HPJ.out, TJ.out⟩
  rw [← HVV.out]
end
end Go.Proofs.YtpanmfdbdgecaaaGreat.C

namespace Go.Proofs.YtpanmfdbdgecaaaGreat.C
open Go.RowKit
set_option linter.unusedVariables false
end Go.Proofs.YtpanmfdbdgecaaaGreat.C

namespace Go.Proofs.YtpanmfdbdgecaaaGreat.C
open Go.RowKit
set_option linter.unusedVariables false
section
variable {w : World} {A : PAd} {F : PCf} {S S1 S2 S3 S4 : PSt}
end
end Go.Proofs.YtpanmfdbdgecaaaGreat.C

namespace Go.Proofs.YtpanmfdbdgecaaaGreat.C
open Go.RowKit
set_option linter.unusedVariables false
theorem pfx_all (p0 p1 p2 : Nat) : (pfx p0 p1 p2).all (·.oneCell') = true := by kernel_rfl
section
variable {w : World} {A : PAd} {F : PCf} {S : PSt}
end
end Go.Proofs.YtpanmfdbdgecaaaGreat.C

namespace Go.Proofs.YtpanmfdbdgecaaaGreat.C
open Go.RowKit
set_option linter.unusedVariables false
/-- TopFull's config. -/
structure FullF (F : PCf) (room : Nat) (K : Nat → Nat) : Prop where
  ok : F.Ok
  c0 : F.c 0 = 1
  c1 : F.c 1 = 60
  c2 : F.c 2 = 1
  c3 : F.c 3 = 1
  c4 : F.c 4 = 0
  c5 : F.c 5 = 0
  c6 : F.c 6 = 64
  c7 : F.c 7 = (room : Nat)
  c9 : F.c 9 = 1048576
  c10 : F.c 10 = 0
  c12 : F.c 12 = 1048576
  c13 : F.c 13 = 0
  c14 : F.c 14 = 0
  c15 : F.c 15 = 1
  c16 : F.c 16 = 1
  c17 : F.c 17 = 1099511627776
  c18 : F.c 18 = 0
  c19 : F.c 19 = 1048576
  rm : 1 ≤ room ∧ room ≤ 8
  key : Key16 F.kv K
/-- What waits: so many free ones, so many boxed ones, of 60 bytes each. -/
structure JF (S : PSt) (l0 l2 : List (Array Value)) : Prop where
  L : S.L = [l0, [], l2]
  p0 : ∀ x ∈ l0, PkL x 60
  sh : S.sh = 0
  ql : S.ql = [60 * (l0.length : Int), 0, 60 * (l2.length : Int)]
  tl : S.tl.length = 3
  ln : S.line.length = S.tl.countP (·.awake)
theorem wake_count (tl : List Tcl) (line : List Nat) (c : Nat) (h : line.length = tl.countP (·.awake)) : (wakeT tl line c).2.length = (wakeT tl line c).1.countP (·.awake) := by
  unfold wakeT
  cases hx : tl[c]? with
  | none => exact h
  | some x =>
    simp only
    cases ha : x.awake with
    | true => simpa using h
    | false =>
      have hc := lt_of_some hx
      have e : tl[c] = x := by
        rw [List.getElem?_eq_getElem hc] at hx
        injection hx
      simp only [Bool.false_eq_true, if_false]
      rw [List.countP_set hc, e, ha]
      simp [h]
theorem wake_room {tl : List Tcl} {line : List Nat} {c : Nat} {y : Tcl} (h : line.length = tl.countP (·.awake)) (hy : tl[c]? = some y) : y.awake = false → line.length < tl.length := fun ha => by
  rw [h]
  refine Nat.lt_of_le_of_ne List.countP_le_length fun e => ?_
  have := List.countP_eq_length.1 e y (List.mem_of_getElem? hy)
  rw [ha] at this
  cases this
section
variable {F : PCf} {room : Nat} {K : Nat → Nat} {S : PSt} {l0 l2 : List (Array Value)}
theorem JF.fits (h : JF S l0 l2) (hF : FullF F room K) (hk : l0.length + l2.length ≤ 40) : QU.fitsB (F.c 9) (F.c 10) S.sh S.ql (0 : Nat) 60 = true ∧ QU.fitsB (F.c 9) (F.c 10) S.sh S.ql (2 : Nat) 60 = true := by
  rw [hF.c9, hF.c10, h.sh, h.ql]
  unfold QU.fitsB QU.moreQ QU.overQ
  constructor <;> simp <;> repeat' split
  all_goals omega
end
end Go.Proofs.YtpanmfdbdgecaaaGreat.C

namespace Go.Proofs.YtpanmfdbdgecaaaGreat.C
open Go.RowKit
set_option linter.unusedVariables false
/-- What is left of a count. -/
def subC (x y : Int) : Int := if 0 < cnt x - cnt y then cnt x - cnt y else 0
theorem num_sub (x y : Int) (w : World) : Calls Tryz.prog 150 #[.int .i64 x, .int .i64 y] w fun e w' => e = .returned (.int .i64 (subC x y)) ∧ w' = w := by
  have C := Lib.hid num_count
  have h1 := cnt_range x
  have h2 := cnt_range y
  unfold subC
  have C1 := Lib.hid (num_count x w)
  have C2 := Lib.hid (num_count y w)
  generalize cnt x = a at *
  generalize cnt y = b at *
  obtain ⟨u, hu⟩ : ∃ u, a - b = u := ⟨_, rfl⟩
  have hw : IntKind.i64.wrap u = u := IntWalk.i64_in _ (by omega)
  obtain ⟨v, hv⟩ : ∃ v, (if (0 : Int) < u then u else 0) = v := ⟨_, rfl⟩
  rw [hu, hv]
  clear C
  go_enter Tryz.func150, Tryz.ntmps150
  go_wp2_with fail
  refine C1.out.mono ?_
  rintro e w1 ⟨rfl, h⟩
  replace h := h.symm
  subst h
  go_wp2_with fail
  refine C2.out.mono ?_
  rintro e w1 ⟨rfl, h⟩
  replace h := h.symm
  subst h
  go_wp2
  go_ret
  exact ⟨rfl, rfl⟩
set_option maxRecDepth 100000 in
theorem take_fn (b nb k : Nat) (x n : Int) (w : World) (hx : w.cell? ⟨b, k * 3, none⟩ = some (.int .i64 x)) (hf : w.frozen? ⟨b, k * 3, none⟩ = false) (hn : w.cell? ⟨nb, 0, none⟩ = some (.int .i64 n)) (hne : nb ≠ b) :
    Calls Tryz.prog 149 #[.pointer (some ⟨b, k * 3, none⟩), .pointer (some ⟨nb, 0, none⟩)] w fun e w' => e = .returned (.tuple #[]) ∧ Below w.heap.size (w.setCell ⟨b, k * 3, none⟩ (.int .i64 (subC x n))) w' := by
  have hb := World.block_lt_of_cell? w _ hx
  have hnb := World.block_lt_of_cell? w _ hn
  have HN : Hid (∀ w', Two b b w w' → w'.cell? ⟨nb, 0, none⟩ = some (.int .i64 n)) := Lib.hid fun w' q => by rw [World.cell?_of_block (q.block nb hnb hne hne)]; exact hn
  go_enter Tryz.func149, Tryz.ntmps149
  go_wp2_with fail
  have hx' : w.drew.cell? ⟨b, k * 3, none⟩ = some (.int .i64 x) := hx
  have hf' : w.drew.frozen? ⟨b, k * 3, none⟩ = false := hf
  have CA := Lib.hid (num_sub x n)
  refine wp_region_held_drew (S := Two b b w) (by kernel_rfl) (two_ofB (Below.refl _ _).drew) (fun hHeld => ?_)
  refine wpAnyH_take (i := 0) (oi := ⟨some 3, _, _, _, _, _⟩) (v := ?_) rfl (by kernel_rfl) (by kernel_rfl) (by kernel_rfl) (fun _ _ _ h => h) (Or.inl ⟨by rfl, ?_⟩) hHeld ?_
  rotate_left
  · intro w hSw
    go_simp
    try with_reducible rfl
  try simp only [Act.put, List.setIfInBounds_toArray, List.set_cons_zero, List.set_cons_succ]
  refine wpAnyH_take (i := 1) (oi := ⟨some 4, _, _, _, _, _⟩) (v := ?_) rfl (by kernel_rfl) (by kernel_rfl) (by kernel_rfl) (fun _ _ _ h => h) (Or.inl ⟨by rfl, ?_⟩) hHeld ?_
  rotate_left
  · intro w hSw
    go_simp
    try with_reducible rfl
  try simp only [Act.put, List.setIfInBounds_toArray, List.set_cons_zero, List.set_cons_succ]
  refine wpAnyH_take (i := 2) (oi := ⟨some 5, _, _, _, _, _⟩) (v := ?_) rfl (by kernel_rfl) (by kernel_rfl) (by kernel_rfl) (fun _ _ _ h => h) (Or.inl ⟨by rfl, ?_⟩) hHeld ?_
  rotate_left
  · intro w hSw
    go_simp
    try with_reducible rfl
  try simp only [Act.put, List.setIfInBounds_toArray, List.set_cons_zero, List.set_cons_succ]
  refine wpAnyH_take (i := 3) (oi := ⟨some 6, _, _, _, _, _⟩) (v := ?_) rfl (by kernel_rfl) (by kernel_rfl) (by kernel_rfl) (fun _ _ _ h => h) (Or.inl ⟨by rfl, ?_⟩) hHeld ?_
  rotate_left
  · intro w hSw
    go_simp
    try with_reducible rfl
  try simp only [Act.put, List.setIfInBounds_toArray, List.set_cons_zero, List.set_cons_succ]
  refine wpAnyH_take (i := 5) (oi := ⟨some 8, _, _, _, _, _⟩) (v := ?_) rfl (by kernel_rfl) (by kernel_rfl) (by kernel_rfl) (fun _ _ _ h => h) (Or.inl ⟨by rfl, ?_⟩) hHeld ?_
  rotate_left
  · intro w hSw
    obtain k5 := HN.out w hSw
    go_simp
    try with_reducible rfl
  try simp only [Act.put, List.setIfInBounds_toArray, List.set_cons_zero, List.set_cons_succ]
  refine wpAnyH_ready (rs := [4]) (by kernel_rfl) (by simp) ?_
  refine AllReadyH.cons rfl (fun K hK => ?_) AllReadyH.nil
  go_simp
  refine hK.out _ _ (hHeld) (fun hHeld => ?_)
  clear hK K
  refine wpAnyH_ready (rs := [6]) (by kernel_rfl) (by simp) ?_
  refine AllReadyH.cons rfl (fun K hK => ?_) AllReadyH.nil
  go_simp
  go_wp2_with (go_at_call 150; go_must (refine (CA.out _).mono ?_; rintro e w6 ⟨rfl, rfl⟩))
  refine hK.out _ _ (hHeld) (fun hHeld => ?_)
  clear hK K
  refine wpAnyH_take (i := 7) (oi := ⟨some 10, _, _, _, _, _⟩) (v := ?_) rfl (by kernel_rfl) (by kernel_rfl) (by kernel_rfl) (fun _ _ _ h => h) (Or.inl ⟨by rfl, ?_⟩) hHeld ?_
  rotate_left
  · intro w hSw
    go_simp
    try with_reducible rfl
  try simp only [Act.put, List.setIfInBounds_toArray, List.set_cons_zero, List.set_cons_succ]
  refine wpAnyH_take (i := 8) (oi := ⟨some 11, _, _, _, _, _⟩) (v := ?_) rfl (by kernel_rfl) (by kernel_rfl) (by kernel_rfl) (fun _ _ _ h => h) (Or.inl ⟨by rfl, ?_⟩) hHeld ?_
  rotate_left
  · intro w hSw
    go_simp
    try with_reducible rfl
  try simp only [Act.put, List.setIfInBounds_toArray, List.set_cons_zero, List.set_cons_succ]
  refine wpAnyH_ready (rs := [9]) (by kernel_rfl) (by simp) ?_
  refine AllReadyH.cons rfl (fun K hK => ?_) AllReadyH.nil
  go_simp
  refine hK.out _ _ (((Two.refl b b w).setCell (.inl rfl) _).drewN 1) (fun hHeld => ?_)
  clear hK K
  refine wpAnyH_done (by kernel_rfl) ?_ _
  go_wp2
  go_end0
  exact ⟨rfl, (Below.refl _ _).drew⟩
set_option maxRecDepth 100000 in
theorem each_take (pb b g c k bn nb : Nat) (l : List Bin) (x : Bin) (tg hd up dn n : Int) (w : World) (h : BlAt w pb b l 1 bn tg hd up dn) (hk : w.cell? ⟨g, 0, none⟩ = some (.int .i64 (k : Nat))) (hkn : k < bn) (hbn : bn ≤ 64) (hx : l[k]? = some x) (hn : w.cell? ⟨nb, 0, none⟩ = some (.int .i64 n)) (nnb : nb ≠ b) :
    Calls Tryz.prog 139 #[.pointer (some ⟨pb, 0, none⟩), .slice (some ⟨g, 0, none⟩) 1 c, .func (.func 149) #[] #[.pointer (some ⟨nb, 0, none⟩)]] w fun e w' => e = .returned (.bool true) ∧ (BlAt w' pb b (l.set k ⟨subC x.bytes n, x.changed, x.p⟩) 1 bn tg hd up dn ∧ Two b b w w') := by
  have C0 := Lib.hid (blue_flows pb b g c k bn l tg hd up dn w h hk hkn)
  have hll : l.length = bn := by rw [h.len]; omega
  obtain ⟨c0, _, c2, _⟩ := h.cells
  rw [hll] at c0
  have hne := h.ne
  have CF := Lib.hid (take_fn b nb k x.bytes n w.drew (h.bin hx).1 ((h.bin hx).2.2.2 _) hn nnb)
  have HX := Lib.hid hx
  clear hx hn
  have hptr := h.ptr
  rw [hll] at hptr
  have HL : Hid (∀ w', Two b b w w' → w'.cell? ⟨pb, 0, none⟩ = some (.slice (some ⟨b, 0, none⟩) bn bn) ∧ w'.cell? ⟨pb, 2, none⟩ = some (.int .i64 (bn : Nat))) := Lib.hid fun w' q => by
    have a1 := (q.block pb (Array.getElem?_eq_some_iff.1 hptr).1 hne hne).trans hptr
    exact ⟨cells_of_row a1 0 _ rfl, cells_of_row a1 2 _ rfl⟩
  have HH := Lib.hid h
  clear h hptr
  have hkI : (k : Int) < (bn : Int) := by omega
  have hz1 : IntKind.i64.wrap (0 * (bn : Int)) = 0 := by rw [Int.zero_mul]; rfl
  have hz2 : IntKind.i64.wrap (0 + (k : Int)) = (k : Int) := by rw [Int.zero_add]; exact IntWalk.i64_in _ (by omega)
  have hz0 : IntKind.i64.wrap 0 = 0 := rfl
  have hz3 : IntKind.i64.wrap (k : Int) = (k : Int) := IntWalk.i64_in _ (by omega)
  have hz4 : (0 : Int) ≤ (k : Int) := by omega
  go_enter Tryz.func139, Tryz.ntmps139
  go_wp2_with fail
  refine C0.out.mono ?_
  rintro e w1 ⟨rfl, hw1⟩
  replace hw1 := hw1.symm
  subst hw1
  go_wp2_with fail
  go_loopw [15] (fun t wr => ∃ i : Nat, i ≤ 1 ∧ t = .int .i64 (i : Nat) ∧ (i = 0 → w = wr) ∧ (i = 1 → (BlAt wr pb b (l.set k ⟨subC x.bytes n, x.changed, x.p⟩) 1 bn tg hd up dn ∧ Two b b w wr))) (fun t _ => 1 - (intOf t).toNat)
  case atStart => exact ⟨0, by omega, rfl, fun _ => rfl, fun h => absurd h (by omega)⟩
  case round =>
    obtain ⟨i, hi, rfl, h0, h1⟩ := hrel
    rcases (show i = 0 ∨ i = 1 by omega) with rfl | rfl
    · obtain rfl := h0 rfl
      clear h0 h1
      go_wp2_with fail
      refine wp_region_held_drew (S := Two b b w) (by kernel_rfl) ((Two.refl _ _ w).drewN 1) (fun hHeld => ?_)
      refine wpAnyH_take (i := 0) (oi := ⟨some 20, _, _, _, _, _⟩) (v := ?_) rfl (by kernel_rfl) (by kernel_rfl) (by kernel_rfl) (fun _ _ _ h => h) (Or.inl ⟨by rfl, ?_⟩) hHeld ?_
      rotate_left
      · intro w hSw
        go_simp
        try with_reducible rfl
      try simp only [Act.put, List.setIfInBounds_toArray, List.set_cons_zero, List.set_cons_succ]
      refine wpAnyH_take (i := 1) (oi := ⟨some 21, _, _, _, _, _⟩) (v := ?_) rfl (by kernel_rfl) (by kernel_rfl) (by kernel_rfl) (fun _ _ _ h => h) (Or.inl ⟨by rfl, ?_⟩) hHeld ?_
      rotate_left
      · intro w hSw
        go_simp
        try with_reducible rfl
      try simp only [Act.put, List.setIfInBounds_toArray, List.set_cons_zero, List.set_cons_succ]
      refine wpAnyH_take (i := 2) (oi := ⟨some 22, _, _, _, _, _⟩) (v := ?_) rfl (by kernel_rfl) (by kernel_rfl) (by kernel_rfl) (fun _ _ _ h => h) (Or.inl ⟨by rfl, ?_⟩) hHeld ?_
      rotate_left
      · intro w hSw
        go_simp
        try with_reducible rfl
      try simp only [Act.put, List.setIfInBounds_toArray, List.set_cons_zero, List.set_cons_succ]
      refine wpAnyH_take (i := 3) (oi := ⟨some 23, _, _, _, _, _⟩) (v := ?_) rfl (by kernel_rfl) (by kernel_rfl) (by kernel_rfl) (fun _ _ _ h => h) (Or.inl ⟨by rfl, ?_⟩) hHeld ?_
      rotate_left
      · intro w hSw
        go_simp
        try with_reducible rfl
      try simp only [Act.put, List.setIfInBounds_toArray, List.set_cons_zero, List.set_cons_succ]
      refine wpAnyH_take (i := 4) (oi := ⟨some 24, _, _, _, _, _⟩) (v := ?_) rfl (by kernel_rfl) (by kernel_rfl) (by kernel_rfl) (fun _ _ _ h => h) (Or.inl ⟨by rfl, ?_⟩) hHeld ?_
      rotate_left
      · intro w hSw
        obtain ⟨k0, k2⟩ := HL.out w hSw
        go_simp
        try with_reducible rfl
      try simp only [Act.put, List.setIfInBounds_toArray, List.set_cons_zero, List.set_cons_succ]
      refine wpAnyH_take (i := 5) (oi := ⟨some 25, _, _, _, _, _⟩) (v := ?_) rfl (by kernel_rfl) (by kernel_rfl) (by kernel_rfl) (fun _ _ _ h => h) (Or.inl ⟨by rfl, ?_⟩) hHeld ?_
      rotate_left
      · intro w hSw
        go_simp
        try with_reducible rfl
      try simp only [Act.put, List.setIfInBounds_toArray, List.set_cons_zero, List.set_cons_succ]
      refine wpAnyH_take (i := 6) (oi := ⟨some 26, _, _, _, _, _⟩) (v := ?_) rfl (by kernel_rfl) (by kernel_rfl) (by kernel_rfl) (fun _ _ _ h => h) (Or.inl ⟨by rfl, ?_⟩) hHeld ?_
      rotate_left
      · intro w hSw
        go_simp
        try with_reducible rfl
      try simp only [Act.put, List.setIfInBounds_toArray, List.set_cons_zero, List.set_cons_succ]
      refine wpAnyH_take (i := 7) (oi := ⟨some 27, _, _, _, _, _⟩) (v := ?_) rfl (by kernel_rfl) (by kernel_rfl) (by kernel_rfl) (fun _ _ _ h => h) (Or.inl ⟨by rfl, ?_⟩) hHeld ?_
      rotate_left
      · intro w hSw
        go_simp
        try with_reducible rfl
      try simp only [Act.put, List.setIfInBounds_toArray, List.set_cons_zero, List.set_cons_succ]
      refine wpAnyH_take (i := 8) (oi := ⟨some 28, _, _, _, _, _⟩) (v := ?_) rfl (by kernel_rfl) (by kernel_rfl) (by kernel_rfl) (fun _ _ _ h => h) (Or.inl ⟨by rfl, ?_⟩) hHeld ?_
      rotate_left
      · intro w hSw
        go_simp
        try with_reducible rfl
      try simp only [Act.put, List.setIfInBounds_toArray, List.set_cons_zero, List.set_cons_succ]
      refine wpAnyH_take (i := 9) (oi := ⟨some 29, _, _, _, _, _⟩) (v := ?_) rfl (by kernel_rfl) (by kernel_rfl) (by kernel_rfl) (fun _ _ _ h => h) (Or.inl ⟨by rfl, ?_⟩) hHeld ?_
      rotate_left
      · intro w hSw
        obtain ⟨k0, k2⟩ := HL.out w hSw
        go_simp
        try with_reducible rfl
      try simp only [Act.put, List.setIfInBounds_toArray, List.set_cons_zero, List.set_cons_succ]
      refine wpAnyH_take (i := 10) (oi := ⟨some 30, _, _, _, _, _⟩) (v := ?_) rfl (by kernel_rfl) (by kernel_rfl) (by kernel_rfl) (fun _ _ _ h => h) (Or.inl ⟨by rfl, ?_⟩) hHeld ?_
      rotate_left
      · intro w hSw
        go_simp
        try with_reducible rfl
      try simp only [Act.put, List.setIfInBounds_toArray, List.set_cons_zero, List.set_cons_succ]
      refine wpAnyH_take (i := 11) (oi := ⟨some 31, _, _, _, _, _⟩) (v := ?_) rfl (by kernel_rfl) (by kernel_rfl) (by kernel_rfl) (fun _ _ _ h => h) (Or.inl ⟨by rfl, ?_⟩) hHeld ?_
      rotate_left
      · intro w hSw
        go_simp
        try with_reducible rfl
      try simp only [Act.put, List.setIfInBounds_toArray, List.set_cons_zero, List.set_cons_succ]
      refine wpAnyH_take (i := 12) (oi := ⟨some 32, _, _, _, _, _⟩) (v := ?_) rfl (by kernel_rfl) (by kernel_rfl) (by kernel_rfl) (fun _ _ _ h => h) (Or.inl ⟨by rfl, ?_⟩) hHeld ?_
      rotate_left
      · intro w hSw
        go_simp
        try with_reducible rfl
      try simp only [Act.put, List.setIfInBounds_toArray, List.set_cons_zero, List.set_cons_succ]
      refine wpAnyH_take (i := 13) (oi := ⟨some 33, _, _, _, _, _⟩) (v := ?_) rfl (by kernel_rfl) (by kernel_rfl) (by kernel_rfl) (fun _ _ _ h => h) (Or.inl ⟨by rfl, ?_⟩) hHeld ?_
      rotate_left
      · intro w hSw
        go_simp
        try with_reducible rfl
      try simp only [Act.put, List.setIfInBounds_toArray, List.set_cons_zero, List.set_cons_succ]
      refine wpAnyH_ready (rs := [14]) (by kernel_rfl) (by simp) ?_
      refine AllReadyH.cons rfl (fun K hK => ?_) AllReadyH.nil
      go_simp
      go_wp2_with (go_at_call 149; go_must (refine (CF.out).mono ?_; rintro e w14 ⟨rfl, hB⟩))
      refine hK.out _ _ ((hHeld.setCell (x := ⟨b, k * 3, none⟩) (.inl rfl) _).trans (two_ofB (by simpa [World.setCell] using hB))) (fun hHeld => ?_)
      clear hK K
      refine wpAnyH_done (by kernel_rfl) ?_ _
      have hbl : BlAt w14 pb b (l.set k ⟨subC x.bytes n, x.changed, x.p⟩) 1 bn tg hd up dn := (HH.out.drew.setF HX.out 0 (.int .i64 (subC x.bytes n)) ⟨subC x.bytes n, x.changed, x.p⟩ (by omega) rfl).below (by simpa [World.setCell] using hB)
      have HF := Lib.hid (show BlAt w14 pb b (l.set k ⟨subC x.bytes n, x.changed, x.p⟩) 1 bn tg hd up dn ∧ Two b b w w14 from ⟨hbl, hHeld⟩)
      clear hB hbl hHeld
      go_wp2
      go_roundw
      case rel => exact ⟨1, by omega, by go_num, fun h => absurd h (by omega), fun _ => HF.out⟩
      case measure => simp [intOf]
    · have HF := Lib.hid (h1 rfl)
      clear h0 h1
      go_wp2
      go_ret
      exact ⟨rfl, HF.out⟩
set_option maxRecDepth 100000 in
theorem blue_take (pb b g c k bn : Nat) (l : List Bin) (x : Bin) (tg hd up dn n : Int) (w : World) (h : BlAt w pb b l 1 bn tg hd up dn) (hk : w.cell? ⟨g, 0, none⟩ = some (.int .i64 (k : Nat))) (hkn : k < bn) (hbn : bn ≤ 64) (hx : l[k]? = some x) (hn : 0 ≤ n ∧ n ≤ 1073741824) :
    Calls Tryz.prog 98 #[.pointer (some ⟨pb, 0, none⟩), .slice (some ⟨g, 0, none⟩) 1 c, .int .i64 n] w fun e w' => e = .returned (.bool true) ∧ BlAt w' pb b (l.set k ⟨subC x.bytes n, x.changed, x.p⟩) 1 bn tg hd up dn ∧ Two b b w w' := by
  have hgb := World.block_lt_of_cell? w _ hk
  simp only at hgb
  have hbb : b < w.heap.size := (Array.getElem?_eq_some_iff.1 h.row).1
  have qa : Below w.heap.size w (w.alloc (.cells #[.int .i64 n] 2)) := (Below.refl _ _).alloc (Nat.le_refl _) _
  have C := Lib.hid (each_take pb b g c k bn w.heap.size l x tg hd up dn n (w.alloc (.cells #[.int .i64 n] 2)) (h.below qa) (by rw [qa.cell (p := ⟨g, 0, none⟩) hgb]; exact hk) hkn hbn hx (cells_of_row (Go.heap_alloc_new w _) 0 _ rfl) (by omega))
  have T0 := Lib.hid (two_ofB (x := b) (y := b) qa)
  obtain ⟨n0, n1⟩ := hn
  clear h hk hx qa
  go_enter Tryz.func98, Tryz.ntmps98
  go_wp2_with fail
  refine C.out.mono ?_
  rintro e w2 ⟨rfl, hB, h2⟩
  have HB := Lib.hid hB
  have H2 := Lib.hid (T0.out.trans h2)
  clear hB h2 C
  go_wp2
  go_ret
  exact ⟨rfl, HB.out, H2.out⟩
end Go.Proofs.YtpanmfdbdgecaaaGreat.C
