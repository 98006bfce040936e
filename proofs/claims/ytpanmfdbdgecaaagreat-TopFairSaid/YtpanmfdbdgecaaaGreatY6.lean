/- The box's table: Get, Put of a new one. · The box's table: Put of a new one. · The box's table: all prefixes of one that has one at most. · Prefixes are sorted: up to eight of them, in their row. · The box's table: all prefixes of one that has up to eight. · The box's table: Del of the last one. · The box: who is over goes. · The box: In, All. · Numbers: Mul; tokens: at, Take. · The box: Put. · The box: Take. · The box: several are in it, nobody goes. · The sketch: where a prefix is. · The sketch: Add, Reset. -/
import Derived.Test.YtpanmfdbdgecaaaGreatY5
import Derived.StillTailTactics
import Derived.Lib.BytesEntry
import Derived.Laws.Externs
import Derived.Deep.RegionLaw
namespace Go.Proofs.YtpanmfdbdgecaaaGreat.C
open Go.RowKit
set_option linter.unusedVariables false
/-- The place of a prefix; below 0: none. -/
noncomputable def at1 (l : List Plc) (p0 p1 p2 : Nat) : Int × Int := fnd l (pfx p0 p1 p2) (pfH p0 p1 p2 % l.length).toNat l.length 0 (-1)
section
variable {w : World} {pb b room : Nat} {l : List Plc} {nn : Int}
theorem TbAt.entry (h : TbAt w pb b l room nn) {i : Nat} {x : Plc} (hx : l[i]? = some x) : w.cell? ⟨b, i * 11 + 9, none⟩ = some (.int .i64 x.til) ∧ w.cell? ⟨b, i * 11 + 10, none⟩ = some (tokV x.tok) ∧ w.cell? ⟨b, i * 11, none⟩ = some (.int .i64 x.state) := by
  have hp := (h.pre x (List.mem_of_getElem? hx)).1
  have h9 : (plcC x).toArray.toList[9]? = some (.int .i64 x.til) := by
    simp [plcC, hp]
  have h10 : (plcC x).toArray.toList[10]? = some (tokV x.tok) := by
    simp [plcC, hp]
  exact ⟨cells_of_row h.row _ _ (h.at hx 9 _ h9), cells_of_row h.row _ _ (h.at hx 10 _ h10), cells_of_row h.row _ _ (h.at hx 0 _ rfl)⟩
end
set_option maxRecDepth 100000 in
theorem table_get_no (pb b room : Nat) (l : List Plc) (nn : Int) (p0 p1 p2 : Nat) (w : World) (h : TbAt w pb b l room nn) (hpf : ∀ x ∈ l, Flat Tryz.prog 65 x.p) (h0 : p0 < 256) (h1 : p1 < 256) (h2 : p2 < 256) (hl0 : 1 ≤ l.length) (hl1 : l.length ≤ 65536) (hno : (at1 l p0 p1 p2).1 = -1) :
    Calls Tryz.prog 69 #[.pointer (some ⟨pb, 0, none⟩), .agg (pfx p0 p1 p2)] w fun e w' => e = .returned (.tuple #[.agg #[.int .i64 0, .pointer none], .bool false]) ∧ Below w.heap.size w w' := by
  have hps : (Tryz.prog.info? 65).map (·.size) = some (pfx p0 p1 p2).size := pf_size
  have hC := fun (w' : World) (q : Below w.heap.size w w') => table_find pb b room l nn p0 p1 p2 w' (h.below q) hpf h0 h1 h2 hl0 hl1
  obtain ⟨sp, hsp⟩ : ∃ s, (at1 l p0 p1 p2).2 = s := ⟨_, rfl⟩
  unfold at1 at hno hsp
  rw [hno, hsp] at hC
  have HC := Lib.hid hC
  have HPS := Lib.hid hps
  clear hC hps hno hsp h hpf
  generalize pfx p0 p1 p2 = p at *
  go_enter Tryz.func69, Tryz.ntmps69
  go_upto_region 1 with ((with_reducible refine arm_box 3 1 65 p ?_ ?_); rfl; intro w1 HB HX HS)
  have hb1 : Below w1.heap.size w1 (w1.alloc (.cells #[.int .i64 0, .pointer none] 199)) := (Below.refl _ _).alloc (Nat.le_refl _) _
  have hx1 := Go.heap_alloc_new w1 (.cells #[.int .i64 0, .pointer none] 199)
  have B1 := Lib.hid (HB.out.trans (hb1.mono HB.out.size))
  have X1 := Lib.hid hx1
  have P1 := Lib.hid (keep_block hb1 HX.out)
  clear hb1 hx1
  generalize w1.alloc (.cells #[.int .i64 0, .pointer none] 199) = w2 at *
  have hle := HB.out.size
  generalize w1.heap.size = rb at *
  have hld := box_load (t := 65) P1.out _ Tryz.underlying65 rfl HPS.out
  go_wp2_with ((with_reducible refine arm_load 11 3 65 _ _ hld ?_ ?_); rfl)
  refine (HC.out w2 B1.out).mono ?_
  rintro e w3 ⟨rfl, hb⟩
  have B3 := Lib.hid (B1.out.trans (hb.mono B1.out.size))
  have X3 := Lib.hid (keep_block hb X1.out)
  clear hb hld X1 P1 B1 HX
  have hb4 : Below w3.heap.size w3 (w3.alloc (.cells #[.int .i64 0, .pointer none] 199)) := (Below.refl _ _).alloc (Nat.le_refl _) _
  have X4 := keep_block hb4 X3.out
  have B4 := B3.out.trans (hb4.mono B3.out.size)
  have k0 := cells_of_row X4 0 _ rfl
  have k1 := cells_of_row X4 1 _ rfl
  have f0 := frozen_of_row _ _ 0 _ _ X4
  have f1 := frozen_of_row _ _ 1 _ _ X4
  have HX5 := Lib.hid (box2 X4 (.int .i64 0) (.pointer none))
  have B5 := Lib.hid ((B4.setCell (p := ⟨rb, 0, none⟩) hle (.int .i64 0)).setCell (p := ⟨rb, 1, none⟩) hle (.pointer none))
  clear hb4 X4 B4
  go_wp2
  refine bodyPost_ret (results_row_tmp rfl _ _ _ _ _ _ _ rfl HX5.out Tryz.underlying199 rfl rfl) rfl ?_
  exact ⟨rfl, B5.out⟩
set_option maxRecDepth 100000 in
theorem table_get_yes (pb b room : Nat) (l : List Plc) (nn : Int) (p0 p1 p2 i : Nat) (x : Plc) (w : World) (h : TbAt w pb b l room nn) (hpf : ∀ x ∈ l, Flat Tryz.prog 65 x.p) (h0 : p0 < 256) (h1 : p1 < 256) (h2 : p2 < 256) (hl0 : 1 ≤ l.length) (hl1 : l.length ≤ 65536) (hat : (at1 l p0 p1 p2).1 = (i : Int)) (hx : l[i]? = some x) :
    Calls Tryz.prog 69 #[.pointer (some ⟨pb, 0, none⟩), .agg (pfx p0 p1 p2)] w fun e w' => e = .returned (.tuple #[.agg #[.int .i64 x.til, tokV x.tok], .bool true]) ∧ Below w.heap.size w w' := by
  have hps : (Tryz.prog.info? 65).map (·.size) = some (pfx p0 p1 p2).size := pf_size
  have hC := fun (w' : World) (q : Below w.heap.size w w') => table_find pb b room l nn p0 p1 p2 w' (h.below q) hpf h0 h1 h2 hl0 hl1
  obtain ⟨sp, hsp⟩ : ∃ s, (at1 l p0 p1 p2).2 = s := ⟨_, rfl⟩
  unfold at1 at hat hsp
  rw [hat, hsp] at hC
  have hil : i < l.length := (List.getElem?_eq_some_iff.1 hx).1
  have hT : ∀ w', Below w.heap.size w w' → w'.cell? ⟨pb, 0, none⟩ = some (.slice (some ⟨b, 0, none⟩) l.length l.length) ∧ w'.cell? ⟨b, i * 11 + 9, none⟩ = some (.int .i64 x.til) ∧ w'.cell? ⟨b, i * 11 + 10, none⟩ = some (tokV x.tok) := fun w' q => ⟨(h.below q).cells.1, ((h.below q).entry hx).1, ((h.below q).entry hx).2.1⟩
  have HT := Lib.hid hT
  have HC := Lib.hid hC
  have HPS := Lib.hid hps
  clear hC hps hat hsp h hpf hx hT
  generalize pfx p0 p1 p2 = p at *
  generalize x.til = til at *
  obtain ⟨tk, htk⟩ : ∃ o, tokV x.tok = .pointer o := ⟨_, rfl⟩
  rw [htk] at HT ⊢
  clear htk
  obtain ⟨n, hn⟩ : ∃ n, l.length = n := ⟨_, rfl⟩
  rw [hn] at HT hil hl1 hl0
  clear hn
  have hiI : (i : Int) < (n : Int) := by omega
  go_enter Tryz.func69, Tryz.ntmps69
  go_upto_region 1 with ((with_reducible refine arm_box 3 1 65 p ?_ ?_); rfl; intro w1 HB HX HS)
  have hb1 : Below w1.heap.size w1 (w1.alloc (.cells #[.int .i64 0, .pointer none] 199)) := (Below.refl _ _).alloc (Nat.le_refl _) _
  have hx1 := Go.heap_alloc_new w1 (.cells #[.int .i64 0, .pointer none] 199)
  have B1 := Lib.hid (HB.out.trans (hb1.mono HB.out.size))
  have X1 := Lib.hid hx1
  have P1 := Lib.hid (keep_block hb1 HX.out)
  clear hb1 hx1
  generalize w1.alloc (.cells #[.int .i64 0, .pointer none] 199) = w2 at *
  have hle := HB.out.size
  generalize w1.heap.size = rb at *
  have hld := box_load (t := 65) P1.out _ Tryz.underlying65 rfl HPS.out
  go_wp2_with ((with_reducible refine arm_load 11 3 65 _ _ hld ?_ ?_); rfl)
  refine (HC.out w2 B1.out).mono ?_
  rintro e w3 ⟨rfl, hb⟩
  have B3 := Lib.hid (B1.out.trans (hb.mono B1.out.size))
  have X3 := keep_block hb X1.out
  obtain ⟨t0, t1, t2⟩ := HT.out w3 B3.out
  have t2' : w3.cell? ⟨b, i * 11 + 9 + 1, none⟩ = some (.pointer tk) := t2
  have k0 := cells_of_row X3 0 _ rfl
  have k1 := cells_of_row X3 1 _ rfl
  have f0 := frozen_of_row _ _ 0 _ _ X3
  have f1 := frozen_of_row _ _ 1 _ _ X3
  have HX5 := Lib.hid (box2 X3 (.int .i64 til) (.pointer tk))
  have B5 := Lib.hid ((B3.out.setCell (p := ⟨rb, 0, none⟩) hle (.int .i64 til)).setCell (p := ⟨rb, 1, none⟩) hle (.pointer tk))
  clear hb hld X1 P1 B1 HX X3
  go_wp2
  refine bodyPost_ret (results_row_tmp rfl _ _ _ _ _ _ _ rfl HX5.out Tryz.underlying199 rfl rfl) rfl ?_
  exact ⟨rfl, B5.out⟩
theorem box_store_mid {t : TypeId} {w : World} {b o : Nat} {C x : Array Value} {t' : TypeId} (h : w.heap[b]? = some (.cells C t' (0, 0))) (hi : (Tryz.prog.info? t).map (·.size) = some x.size) (h1 : x.all (·.oneCell') = true) (hC : o + x.size ≤ C.size) : (Instr.storeAt t (.pointer (some ⟨b, o, none⟩)) (.agg x)).run Tryz.prog w = .ok () (w.setCells b o x.toList) :=
  run_storeAt_mid (P := Tryz.prog) w b o t x (there_of_block h hC) hi h1
theorem plcC_all {p : Array Value} (st til : Int) (tok : Option Nat) (h : p.all (·.oneCell') = true) : (plcC ⟨st, p, til, tok⟩).toArray.all (·.oneCell') = true := by
  simp [plcC, Value.oneCell', tokV]
  intro i hi
  exact Array.all_eq_true.1 h i hi
section
variable {w : World} {pb b room : Nat} {l : List Plc} {nn : Int}
theorem TbAt.ne (h : TbAt w pb b l room nn) : pb ≠ b := ne_ty h.ptr h.row (by decide)
theorem TbAt.size (h : TbAt w pb b l room nn) : (l.map plcC).flatten.toArray.size = l.length * 11 := by
  rw [List.size_toArray, flat_length 11 _ (plcC_len h.pre), List.length_map]
/-- A place is written. -/
theorem TbAt.setPlace (h : TbAt w pb b l room nn) {i : Nat} (hi : i < l.length) (y : Plc) (hy : y.p.size = 8 ∧ y.p.all (·.oneCell') = true) : TbAt (w.setCells b (i * 11) (plcC y)) pb b (l.set i y) room nn := by
  have hyl : (plcC y).length = 11 := by simp [plcC, hy.1]
  refine ⟨?_, ?_, by rw [List.length_set]; exact h.len, fun x hx => ?_⟩
  · rw [heap_setCells_other _ _ _ _ _ h.ne, List.length_set]
    exact h.ptr
  · have hb := block_setCells 274 (plcC y) (i * 11) w b _ h.row (by rw [hyl, h.size]; omega)
    rw [hb]
    have e : (l.set i y).map plcC = (l.map plcC).set i (plcC y) := by rw [List.map_set]
    rw [e, flat_set _ (plcC_len h.pre) i (plcC y) (by simpa using hi) hyl]
  · rcases List.mem_or_eq_of_mem_set hx with hx | rfl
    · exact h.pre x hx
    · exact hy
theorem TbAt.setN (h : TbAt w pb b l room nn) (m : Int) : TbAt (w.setCell ⟨pb, 2, none⟩ (.int .i64 m)) pb b l room m :=
  ⟨heap_setCell_same _ _ 2 _ _ (.int .i64 m) h.ptr, (heap_setCell_other _ _ _ _ (fun e => h.ne e.symm)).trans h.row, h.len, h.pre⟩
theorem TbAt.drew (h : TbAt w pb b l room nn) : TbAt w.drew pb b l room nn := ⟨h.ptr, h.row, h.len, h.pre⟩
end
end Go.Proofs.YtpanmfdbdgecaaaGreat.C

namespace Go.Proofs.YtpanmfdbdgecaaaGreat.C
open Go.RowKit
set_option linter.unusedVariables false
theorem pfx_ok (a b c : Nat) : (pfx a b c).size = 8 ∧ (pfx a b c).all (·.oneCell') = true := ⟨rfl, by kernel_rfl⟩
theorem ent_size : (Tryz.prog.info? 199).map (·.size) = some 2 := by kernel_rfl
end Go.Proofs.YtpanmfdbdgecaaaGreat.C

namespace Go.Proofs.YtpanmfdbdgecaaaGreat.C
open Go.RowKit
set_option linter.unusedVariables false
set_option maxRecDepth 100000 in
theorem len64_small (m : Nat) (hm : m ≤ 1) (w : World) : Calls Tryz.prog 196 #[.int .u64 (m : Nat)] w fun e w' => e = .returned (.int .i64 (m : Nat)) ∧ w' = w := by
  rcases (show m = 0 ∨ m = 1 by omega) with rfl | rfl
  · go_enter Tryz.func196, Tryz.ntmps196
    go_wp2
    go_ret
    exact ⟨by kernel_rfl, rfl⟩
  · go_enter Tryz.func196, Tryz.ntmps196
    go_wp2
    go_ret
    exact ⟨by kernel_rfl, rfl⟩
theorem len_small (m : Nat) (hm : m ≤ 1) (w : World) : Calls Tryz.prog 180 #[.int .u64 (m : Nat)] w fun e w' => e = .returned (.int .i64 (m : Nat)) ∧ w' = w := by
  have C := Lib.hid (len64_small m hm w)
  go_enter Tryz.func180, Tryz.ntmps180
  go_wp2_with fail
  refine C.out.mono ?_
  rintro e w1 ⟨rfl, rfl⟩
  go_wp2
  go_ret
  exact ⟨rfl, rfl⟩
theorem ins_small (A : Option Addr) (m c : Nat) (f : Value) (hm : m ≤ 1) (w : World) : Calls Tryz.prog 187 #[.slice A m c, .int .i64 0, .int .i64 (m : Nat), f] w fun e w' => e = .returned (.tuple #[]) ∧ w' = w := by
  have hmI : (m : Int) ≤ 1 := by omega
  go_enter Tryz.func187, Tryz.ntmps187
  go_wp2_with fail
  go_loopw [8] (fun s wr => s = .int .i64 1 ∧ w = wr) (fun _ _ => 0)
  case atStart => exact ⟨rfl, rfl⟩
  case round =>
    obtain ⟨rfl, rfl⟩ := hrel
    go_wp2
    go_end0
    exact ⟨rfl, rfl⟩
theorem pdq_small (A : Option Addr) (m c : Nat) (f : Value) (hm : m ≤ 1) (w : World) : Calls Tryz.prog 179 #[.slice A m c, .int .i64 0, .int .i64 (m : Nat), .int .i64 (m : Nat), f] w fun e w' => e = .returned (.tuple #[]) ∧ w' = w := by
  have hmI : (m : Int) ≤ 12 := by omega
  have hw : IntKind.i64.wrap ((m : Int) - 0) = (m : Int) := by rw [Int.sub_zero]; exact IntWalk.i64_in _ (by omega)
  have C := Lib.hid (ins_small A m c f hm)
  go_enter Tryz.func179, Tryz.ntmps179
  go_wp2_with fail
  go_loopw [1, 2, 3, 10, 11] (fun a b c d e wr => a = .int .i64 0 ∧ b = .int .i64 (m : Nat) ∧ c = .int .i64 (m : Nat) ∧ d = .bool true ∧ e = .bool true ∧ w = wr) (fun _ _ _ _ _ _ => 0)
  case atStart => exact ⟨rfl, rfl, rfl, rfl, rfl, rfl⟩
  case round =>
    obtain ⟨rfl, rfl, rfl, rfl, rfl, rfl⟩ := hrel
    go_wp2_with fail
    refine (C.out _).mono ?_
    rintro e w1 ⟨rfl, rfl⟩
    go_wp2
    refine bodyPost_ret (results_none rfl _ _ _) rfl ?_
    exact ⟨rfl, rfl⟩
theorem sort_small (A : Option Addr) (m c : Nat) (f : Value) (hm : m ≤ 1) (w : World) : Calls Tryz.prog 160 #[.slice A m c, f] w fun e w' => e = .returned (.tuple #[]) ∧ w' = w := by
  have C := Lib.hid (len_small m hm)
  have D := Lib.hid (pdq_small A m c f hm)
  have hw : IntKind.u64.wrap (m : Int) = (m : Int) := by rw [IntKind.wrap_u64]; omega
  go_enter Tryz.func160, Tryz.ntmps160
  go_wp2_with fail
  refine (C.out _).mono ?_
  rintro e w1 ⟨rfl, rfl⟩
  go_wp2_with fail
  refine (D.out _).mono ?_
  rintro e w1 ⟨rfl, rfl⟩
  go_wp2
  go_end0
  exact ⟨rfl, rfl⟩
/-- The prefixes of the taken places, in the places' order. -/
def tkn (l : List Plc) : List (Array Value) := (l.filter (fun x => x.state == 1)).map (·.p)
def pfL (ps : List (Array Value)) : List Value := (ps.map (·.toList)).flatten
theorem pfL_snoc (ps : List (Array Value)) (p : Array Value) : pfL ps ++ p.toList = pfL (ps ++ [p]) := by simp [pfL]
theorem pf_info : (Tryz.prog.info? 65).map (fun i => (i.zero, i.size, i.bytes)) = some (some (.agg PfZ), 8, 8) := by kernel_rfl
theorem tkn_snoc (l : List Plc) (k : Nat) (x : Plc) (hx : l[k]? = some x) : tkn (l.take (k + 1)) = if x.state = 1 then tkn (l.take k) ++ [x.p] else tkn (l.take k) := by
  have hkl := (List.getElem?_eq_some_iff.1 hx).1
  have e : l.take (k + 1) = l.take k ++ [x] := by
    rw [List.take_succ_eq_append_getElem hkl]
    rw [List.getElem?_eq_getElem hkl] at hx
    injection hx with hx
    rw [hx]
  rw [e]
  unfold tkn
  rw [List.filter_append, List.map_append]
  by_cases h1 : x.state = 1
  · rw [if_pos h1]
    simp [h1]
  · rw [if_neg h1]
    simp [h1]
theorem tkn_len (l : List Plc) : (tkn l).length ≤ l.length := by
  unfold tkn
  rw [List.length_map]
  exact List.length_filter_le _ _
set_option maxRecDepth 100000 in
set_option maxHeartbeats 2000000 in
theorem table_all (pb b room : Nat) (l : List Plc) (nn : Int) (w : World) (h : TbAt w pb b l room nn) (hl1 : l.length ≤ 65536) (hm : (tkn l).length ≤ 1) :
    Calls Tryz.prog 117 #[.pointer (some ⟨pb, 0, none⟩)] w fun e w' => ∃ u, e = .returned u ∧ w'.ownsRow w.heap.size 65 8 u (tkn l).length (pfL (tkn l)) ∧ Below w.heap.size w w' := by
  obtain ⟨i0, hi, hz0, hz1, hz2⟩ := info_parts pf_info
  have Hi := Lib.hid hi
  have Hz0 := Lib.hid hz0
  have Hz1 := Lib.hid hz1
  have Hz2 := Lib.hid hz2
  have HH := Lib.hid h
  have HM := Lib.hid hm
  obtain ⟨n, hn⟩ : ∃ n, l.length = n := ⟨_, rfl⟩
  have HN := Lib.hid hn
  have k0 := h.cells.1
  rw [hn] at k0 hl1
  have CS := Lib.hid sort_small
  have htz := tpl_zero
  obtain ⟨TZ, hTZ⟩ : ∃ Z, (plcC plc0).toArray = Z := ⟨_, rfl⟩
  have hTZs : TZ.size = 11 := by rw [← hTZ]; rfl
  rw [hTZ] at htz
  have HTZ := Lib.hid htz
  have HTZS := Lib.hid hTZs
  have hpz : (Value.agg PfZ) = .agg PfZ := rfl
  clear htz hTZs hTZ hi hz0 hz1 hz2 h hn hm hpz
  go_enter Tryz.func117, Tryz.ntmps117
  go_wp2_with fail
  go_loopw [3, 13] (fun s t wr => ∃ k : Nat, k ≤ n ∧ t = .int .i64 (k : Nat) ∧ wr.ownsRow w.heap.size 65 8 s (tkn (l.take k)).length (pfL (tkn (l.take k))) ∧ Below w.heap.size w wr) (fun _ t _ => n - (intOf t).toNat)
  case atStart => exact ⟨0, by omega, rfl, World.ownsRow_nil _ _ _ _, Below.refl _ _⟩
  case round =>
    obtain ⟨k, hk, rfl, ho, hB⟩ := hrel
    have HO := Lib.hid ho
    have HB := Lib.hid hB
    clear ho hB
    by_cases hkn : k = n
    · subst hkn
      have e : l.take k = l := List.take_of_length_le (by rw [HN.out]; exact Nat.le_refl _)
      have ho := HO.out
      rw [e] at ho
      obtain ⟨A, c, rfl⟩ := OW.slice ho
      have HO2 := Lib.hid ho
      clear ho e
      go_wp2_with fail
      refine (CS.out A _ c _ HM.out _).mono ?_
      rintro e w1 ⟨rfl, rfl⟩
      go_wp2
      go_ret
      exact ⟨_, rfl, HO2.out, HB.out⟩
    · have hlt : (k : Int) < (n : Int) := by omega
      obtain ⟨x, hx⟩ : ∃ x, l[k]? = some x := ⟨_, List.getElem?_eq_getElem (by rw [HN.out]; omega)⟩
      have hT3 := HH.out.below HB.out
      have hld := box_load_mid (t := 274) hT3.row (hT3.at hx) _ Tryz.underlying274 rfl (by rw [List.size_toArray, plcC_len hT3.pre _ (by exact List.mem_map.2 ⟨x, List.mem_of_getElem? hx, rfl⟩)]; exact tpl_size)
      have hx11 : (plcC x).toArray.size = 11 := by rw [List.size_toArray]; exact plcC_len hT3.pre _ (by exact List.mem_map.2 ⟨x, List.mem_of_getElem? hx, rfl⟩)
      have hpx := hT3.pre x (List.mem_of_getElem? hx)
      have hxs : (Tryz.prog.info? 274).map (·.size) = some (plcC x).toArray.size := by rw [hx11]; exact tpl_size
      have hxa : (plcC x).toArray.all (·.oneCell') = true := plcC_all x.state x.til x.tok hpx.2
      have hxp : (plcC x).toArray.extract 1 (1 + 8) = x.p := by
        have hps := hpx.1
        simp [plcC]
        rw [List.take_append_of_le_length (by simp [hps]), List.take_of_length_le (by simp [hps]), Array.toArray_toList]
      have hX0 : (plcC x).toArray[0]? = some (.int .i64 x.state) := rfl
      have hpsx : (Tryz.prog.info? 65).map (·.size) = some x.p.size := by rw [hpx.1]; exact pf_size
      have hsn := tkn_snoc l k x hx
      generalize (plcC x).toArray = X at *
      have HKS := Lib.hid hpsx
      have HXA := Lib.hid hxa
      have HXS := Lib.hid hxs
      have HXP := Lib.hid hxp
      have HX0 := Lib.hid hX0
      have HX11 := Lib.hid hx11
      have HSN := Lib.hid hsn
      have HPX := Lib.hid hpx
      clear hX0 hpsx hxa hxs hxp hx11 hpx hx hT3 hsn
      generalize x.state = st at *
      generalize x.p = xp at *
      have hs3 := HB.out.size
      go_upto_region 7 with (first
        | ((with_reducible refine arm_load 16 15 274 _ _ hld ?_ ?_); rfl)
        | ((with_reducible refine arm_alloc 5 274 TZ 11 HTZ.out ?_); intro w5 HB5 HX5 HS5; have hst := box_store (t := 274) (x := X) HX5.out HXS.out HXA.out (HTZS.out.trans HX11.out.symm); have hbx := Lib.hid (box_whole (cs := X) HX5.out (HX11.out.trans HTZS.out.symm)); have hf5 := Lib.hid (below_setCells (b := wr.heap.size) (Nat.le_refl _) X.toList 0 HB5.out))
        | ((with_reducible refine arm_store 5 16 274 _ _ _ hst ?_ ?_ ?_); rfl; rfl))
      have HB6 := Lib.hid (HB.out.trans (hf5.out.mono hs3))
      have HO6 := Lib.hid (OW.below HO.out hf5.out)
      have hb6 := hbx.out
      clear hst hld hbx hf5 HX5 HB5 HS5 HO
      generalize World.setCells w5 _ 0 X.toList = w6 at *
      generalize wr.heap.size = tb at *
      have ks := cells_of_row hb6 0 _ HX0.out
      have hlp := box_load_mid (t := 65) hb6 (of_extract HXP.out) _ Tryz.underlying65 rfl HKS.out
      have hkw : IntKind.i64.wrap ((k : Int) + 1) = ((k + 1 : Nat) : Int) := by rw [IntWalk.i64_in _ (by omega)]; omega
      have hs6 := HB6.out.size
      have hxo : ∀ u ∈ xp.toList, u.oneCell' = true := fun u hu => Array.all_eq_true_iff_forall_mem.1 HPX.out.2 u (by simpa using hu)
      have HXO := Lib.hid hxo
      have hlen : (tkn (l.take k)).length ≤ k := Nat.le_trans (tkn_len _) (by rw [List.length_take]; omega)
      clear hxo
      by_cases hst1 : st = 1
      · subst hst1
        rw [if_pos rfl] at HSN
        generalize hT : tkn (l.take k) = T at *
        have HT := Lib.hid hT
        clear hT
        go_wp2_with (first
          | ((with_reducible refine arm_load 22 21 65 _ _ hlp ?_ ?_); rfl)
          | ((with_reducible refine wpList_buildSlice_one 23 22 44 65 xp 8 ?_ ?_ ?_ ?_ ?_ ?_ ?_ ?_); rfl; exact Tryz.underlying44; exact pf_size; (exact ⟨.agg PfZ, by rw [Hi.out]; simp [Hz0.out]⟩); omega; omega; (exact HPX.out.1))
          | (at_builtin; go_must (refine wpList_append_own_at _ rfl (.tmp 20) (.tmp 23) 44 rfl w.heap.size 65 i0 (.agg PfZ) 8 8 Tryz.underlying44 Hi.out Hz0.out Hz1.out Hz2.out rfl (by omega) u3 T.length (pfL T) rfl (by exact World.ownsRow.alloc (w := w6) HO6.out _) ⟨w6.heap.size, 0, none⟩ 1 1 xp.toList rfl ?_ ?_ HXO.out ?_ ?_ ?_ ?_)))
        · rw [Array.length_toList, HPX.out.1]
        · intro j u hu
          rw [OW.addr_off, Nat.zero_add, cell_of_row _ _ _ _ _ _ (Go.heap_alloc_new w6 _)]
          simpa using hu
        · simp only [maxLen]; omega
        · omega
        · simp; omega
        · intro v' w' hown' hg _ hat
          have hB' : Below w.heap.size w w' := (HB6.out.alloc hs6 (.cells xp 65)).grown hg (by simp; omega) (fun q hq => (World.ownsRow.lt HO6.out q hq).1)
          have hown2 : w'.ownsRow w.heap.size 65 8 v' (tkn (l.take (k + 1))).length (pfL (tkn (l.take (k + 1)))) := by
            rw [HSN.out, ← pfL_snoc, List.length_append]
            exact hown'
          have HO7 := Lib.hid hown2
          have HB7 := Lib.hid hB'
          clear hown' hg hat hB' hown2 hlp
          go_wp2
          go_roundw
          case rel => exact ⟨k + 1, by omega, by go_num, HO7.out, HB7.out⟩
          case measure => simp [intOf]; omega
      · have hb1 : (st == 1) = false := beq_false_of_ne hst1
        rw [if_neg hst1] at HSN
        clear hlp
        go_wp2
        go_roundw
        case rel => exact ⟨k + 1, by omega, by go_num, by rw [HSN.out]; exact HO6.out, HB6.out⟩
        case measure => simp [intOf]; omega
end Go.Proofs.YtpanmfdbdgecaaaGreat.C

namespace Go.Proofs.YtpanmfdbdgecaaaGreat.C
open Go.RowKit
set_option linter.unusedVariables false
/-- Prefixes that lie in a row: the first ones of a block. -/
def PR (w : World) (g : Nat) (M : List (Array Value)) : Prop := ∃ C : Array Value, w.heap[g]? = some (.cells C 65 (0, 0)) ∧ M.length * 8 ≤ C.size ∧ ∀ (i : Nat) (p : Array Value), M[i]? = some p → ∀ (j : Nat) (v : Value), p.toList[j]? = some v → C[i * 8 + j]? = some v
/-- A prefix whose bytes are bytes. -/
def PfB (p : Array Value) : Prop := Pre p false ∧ ∃ xs : List Int, xs.length = 8 ∧ bytesP p false = xs.map (Value.int .u8)
section
variable {w w' : World} {g : Nat} {M : List (Array Value)}
theorem PR.below (h : PR w g M) (hB : Below w.heap.size w w') : PR w' g M := by
  obtain ⟨C, h1, h2⟩ := h
  exact ⟨C, keep_block hB h1, h2⟩
theorem PR.set (h : PR w g M) (hs : ∀ p ∈ M, p.size = 8) {i : Nat} (hi : i < M.length) (p : Array Value) (hp : p.size = 8) : PR (w.setCells g (i * 8) p.toList) g (M.set i p) := by
  obtain ⟨C, h1, h2, h3⟩ := h
  have hb := block_setCells 65 p.toList (i * 8) w g _ h1 (by rw [Array.length_toList, hp]; omega)
  have hpl : p.toList.length = 8 := by rw [Array.length_toList, hp]
  have hsz : (splice C.toList (i * 8) p.toList).length = C.size := by
    simp only [splice, List.length_append, List.length_take, List.length_drop, Array.length_toList, hp]
    omega
  refine ⟨_, hb, by rw [List.length_set, List.size_toArray, hsz]; exact h2, fun k q hq j v hv => ?_⟩
  rw [List.getElem?_toArray]
  have hj : j < q.toList.length := (List.getElem?_eq_some_iff.1 hv).1
  rcases Nat.lt_trichotomy k i with hk | rfl | hk
  · rw [List.getElem?_set_ne (by omega)] at hq
    have hj8 : j < 8 := by rw [Array.length_toList, hs q (List.mem_of_getElem? hq)] at hj; exact hj
    rw [splice, List.append_assoc, List.getElem?_append_left (by rw [List.length_take, Array.length_toList]; omega), List.getElem?_take_of_lt (by omega)]
    simpa using h3 k q hq j v hv
  · rw [List.getElem?_set_self hi] at hq
    injection hq with hq
    subst hq
    have hj8 : j < 8 := by rw [hpl] at hj; exact hj
    have ht : (C.toList.take (k * 8)).length = k * 8 := by rw [List.length_take, Array.length_toList]; omega
    rw [splice, List.append_assoc, List.getElem?_append_right (by omega), ht, List.getElem?_append_left (by rw [hpl]; omega), Nat.add_sub_cancel_left]
    exact hv
  · rw [List.getElem?_set_ne (by omega)] at hq
    have hj8 : j < 8 := by rw [Array.length_toList, hs q (List.mem_of_getElem? hq)] at hj; exact hj
    have ht : (C.toList.take (i * 8)).length = i * 8 := by rw [List.length_take, Array.length_toList]; omega
    have hd : k * 8 + j - i * 8 - 8 + (i * 8 + 8) = k * 8 + j := by omega
    rw [splice, List.append_assoc, List.getElem?_append_right (by omega), ht, List.getElem?_append_right (by rw [hpl]; omega), hpl, List.getElem?_drop, Nat.add_comm, hd]
    simpa using h3 k q hq j v hv
theorem PR.load (h : PR w g M) {i : Nat} {p : Array Value} (hp : M[i]? = some p) (h8 : p.size = 8) : (Instr.loadAt 65 (.pointer (some ⟨g, i * 8, none⟩))).run Tryz.prog w = .ok (.agg p) w := by
  obtain ⟨C, h1, h2, h3⟩ := h
  have := run_loadAt_mid (P := Tryz.prog) w g (i * 8) 65 p.toList _ (fun j v hv => cells_of_row h1 _ _ (h3 i p hp j v hv)) Tryz.underlying65 rfl (by rw [pf_size, Array.length_toList, h8])
  simpa using this
theorem PR.store (h : PR w g M) {i : Nat} (hi : i < M.length) {p : Array Value} (h8 : p.size = 8) (ha : p.all (·.oneCell') = true) : (Instr.storeAt 65 (.pointer (some ⟨g, i * 8, none⟩)) (.agg p)).run Tryz.prog w = .ok () (w.setCells g (i * 8) p.toList) := by
  obtain ⟨C, h1, h2, h3⟩ := h
  exact box_store_mid h1 (by rw [h8]; exact pf_size) ha (by rw [h8]; omega)
theorem PR.lt (h : PR w g M) : g < w.heap.size := by
  obtain ⟨C, h1, _⟩ := h
  exact (Array.getElem?_eq_some_iff.1 h1).1
end
section
variable {a : Act} {w : World} {ops : Array Oper} {K : Act → World → Prop} {Q : Exit → Act → World → Prop} {E : Prop} {ty : TypeId} {pos : String} {after : Array Edge}
end
/-- All of a row's prefixes are bytes. -/
def AllB (M : List (Array Value)) : Prop := ∀ p ∈ M, PfB p
theorem AllB.set {M : List (Array Value)} (h : AllB M) (i : Nat) {p : Array Value} (hp : PfB p) : AllB (M.set i p) := fun q hq => by
  rcases List.mem_or_eq_of_mem_set hq with hq | rfl
  · exact h q hq
  · exact hp
end Go.Proofs.YtpanmfdbdgecaaaGreat.C

namespace Go.Proofs.YtpanmfdbdgecaaaGreat.C
open Go.RowKit
set_option linter.unusedVariables false
end Go.Proofs.YtpanmfdbdgecaaaGreat.C

namespace Go.Proofs.YtpanmfdbdgecaaaGreat.C
open Go.RowKit
set_option linter.unusedVariables false
theorem zeroCells_flat (Z : Array Value) (m n : Nat) (hZ : Z.size = m) (hm : 0 < m) : (Builtin.zeroCells Z n).toList = (List.replicate n Z.toList).flatten := by
  apply List.ext_getElem?
  intro i
  simp only [Builtin.zeroCells, Array.toList_map, Array.toList_range, List.getElem?_map]
  by_cases hi : i < n * m
  · have h1 : i / m < n := (Nat.div_lt_iff_lt_mul hm).2 hi
    have hf := flat_at (List.replicate n Z.toList) (m := m) (fun c hc => by obtain ⟨_, rfl⟩ := List.mem_replicate.1 hc; simpa using hZ) (i / m) (i % m) Z.toList (by rw [List.getElem?_replicate, if_pos h1]) (Nat.mod_lt _ hm)
    have e : i / m * m + i % m = i := Nat.div_add_mod' i m
    rw [e] at hf
    rw [hf, hZ, List.getElem?_range hi]
    have hk := Nat.mod_lt i hm
    simp [hZ, getElem!_pos, hk]
  · rw [List.getElem?_eq_none (by simp [hZ]; omega), List.getElem?_eq_none]
    · rfl
    · rw [flat_length m _ (fun c hc => by obtain ⟨_, rfl⟩ := List.mem_replicate.1 hc; simpa using hZ), List.length_replicate]
      omega
section
variable {P : Program} {ops : Array Oper} {rest : List Oper} {a : Act} {w : World} {Q : Exit → Act → World → Prop} {ty : TypeId} {pos : String} {after : Array Edge}
theorem arm_clear (s : Nat) (t : TypeId) (v r : Value) (w' : World) (hrun : (Builtin.clear_ #[t] ty #[v]).run P w = .ok r w') (hx : a.tmps.getD s undef = v) (h : wpList P ops Q rest (a.put none r) w') :
    wpList P ops Q (⟨none, .call { callee := .builtin .clear, args := #[.tmp s], argTypes := #[t] }, ty, pos, after, none⟩ :: rest) a w :=
  wpList_plain rfl fun _ hK => by
    have hx' : a.eval (.tmp s) = v := hx
    unfold Oper.wp
    simp [execOp, resolve, invoke, builtin, hx', hrun, Result.andThen]
    exact hK _ _ h
end
section
variable {w : World} {pb b room : Nat} {l : List Plc} {nn : Int}
theorem TbAt.clear (h : TbAt w pb b l room nn) (hl : 1 ≤ l.length) (c : Nat) (ty : TypeId) : (Builtin.clear_ #[275] ty #[.slice (some ⟨b, 0, none⟩) l.length c]).run Tryz.prog w = .ok (.tuple #[]) (w.setCells b 0 (List.replicate l.length (plcC plc0)).flatten) := by
  have hz := zeroCells_flat (plcC plc0).toArray 11 l.length rfl (by omega)
  have hv : (zeroValue 274).run Tryz.prog w = .ok (.agg (plcC plc0).toArray) w := by
    have := tpl_zero
    cases hq : Tryz.prog.info? 274 with
    | none => simp [hq] at this
    | some i =>
      simp [hq] at this
      simp [zeroValue, typeInfo, hq, this.1, go_sem]
  have hlen : (List.replicate l.length (plcC plc0)).flatten.length = l.length * 11 := by
    rw [flat_length 11 _ (fun c hc => by obtain ⟨_, rfl⟩ := List.mem_replicate.1 hc; rfl), List.length_replicate]
  have hth := there_of_block (o := 0) (n := l.length * 11) h.row (by rw [h.size]; omega)
  have hst := run_storeCells_cells (P := Tryz.prog) b 0 (List.replicate l.length (plcC plc0)).flatten 0 w (fun j hj => (hth j (by rwa [hlen] at hj)).1) (fun j hj => (hth j (by rwa [hlen] at hj)).2) (fun v hv => by
    obtain ⟨c, hc, hv⟩ := List.mem_flatten.1 hv
    obtain ⟨_, rfl⟩ := List.mem_replicate.1 hc
    have : (plcC plc0).all (·.oneCell') = true := by kernel_rfl
    exact List.all_eq_true.1 this v hv)
  simp only [Nat.add_zero] at hst
  rw [List.toList_toArray] at hz
  obtain ⟨m, hm⟩ : ∃ m, l.length = m + 1 := ⟨l.length - 1, by omega⟩
  rw [hm] at hz hst ⊢
  rw [List.toList_toArray] at hz
  obtain ⟨Zs, hZs⟩ : ∃ Zs, Builtin.zeroCells (plcC plc0).toArray (m + 1) = Zs := ⟨_, rfl⟩
  rw [hZs] at hz
  rw [← hz] at hst ⊢
  generalize hq : (plcC plc0).toArray = PA at *
  simp [Builtin.clear_, run_underlying Tryz.underlying275, hv, Value.cells, hZs, hst]
end
end Go.Proofs.YtpanmfdbdgecaaaGreat.C

namespace Go.Proofs.YtpanmfdbdgecaaaGreat.C
open Go.RowKit
set_option linter.unusedVariables false
/-- What a prefix has in the table. -/
structure Gets (l : List Plc) (p0 p1 p2 : Nat) (til : Int) (tk : Option Addr) (ok : Bool) : Prop where
  fl : ∀ x ∈ l, Flat Tryz.prog 65 x.p
  b0 : p0 < 256 ∧ p1 < 256 ∧ p2 < 256
  len : 1 ≤ l.length ∧ l.length ≤ 65536
  is : (ok = false ∧ (at1 l p0 p1 p2).1 = -1 ∧ til = 0 ∧ tk = none) ∨ (ok = true ∧ ∃ (i : Nat) (x : Plc), (at1 l p0 p1 p2).1 = (i : Int) ∧ l[i]? = some x ∧ til = x.til ∧ tokV x.tok = .pointer tk)
theorem table_get {pb b room : Nat} {l : List Plc} {nn : Int} {p0 p1 p2 : Nat} {til : Int} {tk : Option Addr} {ok : Bool} (hg : Gets l p0 p1 p2 til tk ok) (w : World) (h : TbAt w pb b l room nn) :
    Calls Tryz.prog 69 #[.pointer (some ⟨pb, 0, none⟩), .agg (pfx p0 p1 p2)] w fun e w' => e = .returned (.tuple #[.agg #[.int .i64 til, .pointer tk], .bool ok]) ∧ Below w.heap.size w w' := by
  rcases hg.is with ⟨rfl, h1, rfl, rfl⟩ | ⟨rfl, i, x, h1, h2, rfl, h4⟩
  · exact table_get_no pb b room l nn p0 p1 p2 w h hg.fl hg.b0.1 hg.b0.2.1 hg.b0.2.2 hg.len.1 hg.len.2 h1
  · have := table_get_yes pb b room l nn p0 p1 p2 i x w h hg.fl hg.b0.1 hg.b0.2.1 hg.b0.2.2 hg.len.1 hg.len.2 h1 h2
    rw [h4] at this
    exact this
theorem BxAt.cells {w : World} {xb pb b room : Nat} {l : List Plc} {n term rate burst : Int} (h : BxAt w xb pb b l room n term rate burst) : w.cell? ⟨xb, 0, none⟩ = some (.pointer (some ⟨pb, 0, none⟩)) ∧ w.cell? ⟨xb, 1, none⟩ = some (.int .i64 term) ∧ w.cell? ⟨xb, 2, none⟩ = some (.int .i64 rate) ∧ w.cell? ⟨xb, 3, none⟩ = some (.int .i64 burst) := by
  rw [cell_of_row _ _ _ _ _ _ h.ptr, cell_of_row _ _ _ _ _ _ h.ptr, cell_of_row _ _ _ _ _ _ h.ptr, cell_of_row _ _ _ _ _ _ h.ptr]
  exact ⟨rfl, rfl, rfl, rfl⟩
theorem BxAt.ne {w : World} {xb pb b room : Nat} {l : List Plc} {n term rate burst : Int} (h : BxAt w xb pb b l room n term rate burst) : xb ≠ pb ∧ xb ≠ b := ⟨ne_ty h.ptr h.tb.ptr (by decide), ne_ty h.ptr h.tb.row (by decide)⟩
set_option maxRecDepth 100000 in
/-- Nobody is in it. -/
theorem sweep_none (xb pb b room : Nat) (l : List Plc) (nn term rate burst now : Int) (w : World) (h : BxAt w xb pb b l room nn term rate burst) (hl1 : l.length ≤ 65536) (hno : tkn l = []) :
    Calls Tryz.prog 68 #[.pointer (some ⟨xb, 0, none⟩), .int .i64 now] w fun e w' => e = .returned (.bool true) ∧ BxAt w' xb pb b l room nn term rate burst ∧ Below w.heap.size w w' := by
  have CA := Lib.hid (table_all pb b room l nn w h.tb hl1 (by rw [hno]; simp))
  rw [hno] at CA
  have k0 := h.cells.1
  have HH := Lib.hid h
  clear h
  go_enter Tryz.func68, Tryz.ntmps68
  go_wp2_with fail
  refine CA.out.mono ?_
  rintro e w1 ⟨u, rfl, ho, hb⟩
  obtain ⟨A, c, rfl⟩ := OW.slice ho
  have HB := Lib.hid hb
  clear ho hb CA
  go_wp2_with fail
  go_loopw [17] (fun t wr => t = .int .i64 0 ∧ w1 = wr) (fun _ _ => 0)
  case atStart => exact ⟨rfl, rfl⟩
  case round =>
    obtain ⟨rfl, rfl⟩ := hrel
    go_wp2
    go_ret
    exact ⟨rfl, HH.out.below HB.out, HB.out⟩
def EZ : Array Value := #[.int .i64 0, .pointer none]
theorem ez_zero : (Tryz.prog.info? 199).map (fun i => (i.zero, i.size)) = some (some (.agg EZ), 2) := by kernel_rfl
end Go.Proofs.YtpanmfdbdgecaaaGreat.C

namespace Go.Proofs.YtpanmfdbdgecaaaGreat.C
open Go.RowKit
set_option linter.unusedVariables false
/-- What a sweep at a moment leaves. -/
def Sweeps (xb pb b room : Nat) (l : List Plc) (nn term rate burst now : Int) (l' : List Plc) (nn' : Int) : Prop :=
  ∀ w, BxAt w xb pb b l room nn term rate burst → Calls Tryz.prog 68 #[.pointer (some ⟨xb, 0, none⟩), .int .i64 now] w fun e w' => e = .returned (.bool true) ∧ BxAt w' xb pb b l' room nn' term rate burst ∧ Two pb b w w'
section
variable {xb pb b room : Nat} {l : List Plc} {nn term rate burst now : Int}
theorem sweeps_none (hl1 : l.length ≤ 65536) (hno : tkn l = []) : Sweeps xb pb b room l nn term rate burst now l nn := fun w h => by
  refine (sweep_none xb pb b room l nn term rate burst now w h hl1 hno).mono ?_
  rintro e w' ⟨rfl, h1, h2⟩
  exact ⟨rfl, h1, two_ofB h2⟩
end
set_option maxRecDepth 100000 in
set_option maxHeartbeats 1000000 in
theorem box_in (xb pb b room : Nat) (l l' : List Plc) (nn nn' term rate burst now til : Int) (tk : Option Addr) (ok : Bool) (p0 p1 p2 : Nat) (w : World) (h : BxAt w xb pb b l room nn term rate burst) (hs : Sweeps xb pb b room l nn term rate burst now l' nn') (hg : Gets l' p0 p1 p2 til tk ok) :
    Calls Tryz.prog 38 #[.pointer (some ⟨xb, 0, none⟩), .agg (pfx p0 p1 p2), .int .i64 now] w fun e w' => e = .returned (.bool ok) ∧ BxAt w' xb pb b l' room nn' term rate burst ∧ Two pb b w w' := by
  have HS := Lib.hid hs
  have HH := Lib.hid h
  have hcg := fun (w' : World) (q : TbAt w' pb b l' room nn') => table_get hg w' q
  have HCG := Lib.hid hcg
  have hps : (Tryz.prog.info? 65).map (·.size) = some (pfx p0 p1 p2).size := pf_size
  have HPS := Lib.hid hps
  clear h hg hcg hs hps
  generalize pfx p0 p1 p2 = p at *
  go_enter Tryz.func38, Tryz.ntmps38
  go_upto_region 1 with ((with_reducible refine arm_box 4 1 65 p ?_ ?_); rfl; intro w1 HB HX HS1)
  have CS := Lib.hid (HS.out w1 (HH.out.below HB.out))
  go_wp2_with fail
  refine CS.out.mono ?_
  rintro e w2 ⟨rfl, hX2, hT2⟩
  have h1 := HH.out.below HB.out
  have n1 := ne_ty HX.out h1.tb.ptr (by decide)
  have n2 := ne_ty HX.out h1.tb.row (by decide)
  have P2 := Lib.hid ((hT2.block _ (Array.getElem?_eq_some_iff.1 HX.out).1 n1 n2).trans HX.out)
  have T2 := Lib.hid (two_ofB (x := pb) (y := b) HB.out |>.trans hT2)
  have HX2 := Lib.hid hX2
  clear hX2 hT2 h1 n1 n2 CS HX HS1 HB
  have HL : Hid (∀ w', Below w2.heap.size w2 w' → w'.cell? ⟨xb, 0, none⟩ = some (.pointer (some ⟨pb, 0, none⟩)) ∧ (Instr.loadAt 65 (.pointer (some ⟨w.heap.size, 0, none⟩))).run Tryz.prog w' = .ok (.agg p) w') := Lib.hid fun w' q => ⟨(HX2.out.below q).cells.1, box_load (t := 65) (keep_block q P2.out) _ Tryz.underlying65 rfl HPS.out⟩
  have CG : Hid (∀ w', Below w2.heap.size w2 w' → Calls Tryz.prog 69 #[.pointer (some ⟨pb, 0, none⟩), .agg p] w' fun e w'' => e = .returned (.tuple #[.agg #[.int .i64 til, .pointer tk], .bool ok]) ∧ Below w'.heap.size w' w'') := Lib.hid fun w' q => HCG.out w' (HX2.out.below q).tb
  go_wp2_with fail
  refine wp_region_held_drew (S := Below w2.heap.size w2) (by kernel_rfl) (Below.refl _ _).drew (fun hHeld => ?_)
  refine wpAnyH_take (i := 0) (oi := ⟨some 14, _, _, _, _, _⟩) (v := ?_) rfl (by kernel_rfl) (by kernel_rfl) (by kernel_rfl) (fun _ _ _ h => h) (Or.inl ⟨by rfl, ?_⟩) hHeld ?_
  rotate_left
  · intro w hSw
    go_simp
    try with_reducible rfl
  try simp only [Act.put, List.setIfInBounds_toArray, List.set_cons_zero, List.set_cons_succ]
  refine wpAnyH_take (i := 1) (oi := ⟨some 15, _, _, _, _, _⟩) (v := ?_) rfl (by kernel_rfl) (by kernel_rfl) (by kernel_rfl) (fun _ _ _ h => h) (Or.inl ⟨by rfl, ?_⟩) hHeld ?_
  rotate_left
  · intro w hSw
    go_simp
    try with_reducible rfl
  try simp only [Act.put, List.setIfInBounds_toArray, List.set_cons_zero, List.set_cons_succ]
  refine wpAnyH_take (i := 2) (oi := ⟨some 16, _, _, _, _, _⟩) (v := ?_) rfl (by kernel_rfl) (by kernel_rfl) (by kernel_rfl) (fun _ _ _ h => h) (Or.inl ⟨by rfl, ?_⟩) hHeld ?_
  rotate_left
  · intro w hSw
    go_simp
    try with_reducible rfl
  try simp only [Act.put, List.setIfInBounds_toArray, List.set_cons_zero, List.set_cons_succ]
  refine wpAnyH_take (i := 3) (oi := ⟨some 17, _, _, _, _, _⟩) (v := ?_) rfl (by kernel_rfl) (by kernel_rfl) (by kernel_rfl) (fun _ _ _ h => h) (Or.inl ⟨by rfl, ?_⟩) hHeld ?_
  rotate_left
  · intro w hSw
    obtain ⟨k0, _⟩ := HL.out w hSw
    go_simp
    try with_reducible rfl
  try simp only [Act.put, List.setIfInBounds_toArray, List.set_cons_zero, List.set_cons_succ]
  refine wpAnyH_take (i := 4) (oi := ⟨some 18, _, _, _, _, _⟩) (v := .agg p) rfl (by kernel_rfl) (by kernel_rfl) (by kernel_rfl) (fun _ _ _ h => h) (Or.inl ⟨by rfl, fun w hSw => exec_load rfl (HL.out w hSw).2⟩) hHeld ?_
  try simp only [Act.put, List.setIfInBounds_toArray, List.set_cons_zero, List.set_cons_succ]
  refine wpAnyH_ready (rs := [5, 9]) (by kernel_rfl) (by simp) ?_
  refine AllReadyH.cons rfl (fun K hK => ?_) (AllReadyH.cons rfl (fun K hK => ?_) AllReadyH.nil)
  · skip
    go_simp
    go_wp2_with (go_at_call 69; go_must (refine (CG.out _ hHeld).mono ?_; rintro e w5 ⟨rfl, hB⟩))
    refine hK.out _ _ (hHeld.trans (hB.mono hHeld.size)) (fun hHeld => ?_)
    clear hK K
    refine wpAnyH_take (i := 6) (oi := ⟨some 13, _, _, _, _, _⟩) (v := ?_) rfl (by kernel_rfl) (by kernel_rfl) (by kernel_rfl) (fun _ _ _ h => h) (Or.inl ⟨by rfl, ?_⟩) hHeld ?_
    rotate_left
    · intro w hSw
      go_simp
      try with_reducible rfl
    try simp only [Act.put, List.setIfInBounds_toArray, List.set_cons_zero, List.set_cons_succ]
    refine wpAnyH_take (i := 7) (oi := ⟨some 20, _, _, _, _, _⟩) (v := ?_) rfl (by kernel_rfl) (by kernel_rfl) (by kernel_rfl) (fun _ _ _ h => h) (Or.inl ⟨by rfl, ?_⟩) hHeld ?_
    rotate_left
    · intro w hSw
      go_simp
      try with_reducible rfl
    try simp only [Act.put, List.setIfInBounds_toArray, List.set_cons_zero, List.set_cons_succ]
    refine wpAnyH_take (i := 8) (oi := ⟨some 21, _, _, _, _, _⟩) (v := ?_) rfl (by kernel_rfl) (by kernel_rfl) (by kernel_rfl) (fun _ _ _ h => h) (Or.inl ⟨by rfl, ?_⟩) hHeld ?_
    rotate_left
    · intro w hSw
      go_simp
      try with_reducible rfl
    try simp only [Act.put, List.setIfInBounds_toArray, List.set_cons_zero, List.set_cons_succ]
    refine wpAnyH_ready (rs := [9]) (by kernel_rfl) (by simp) ?_
    refine AllReadyH.cons rfl (fun K hK => ?_) AllReadyH.nil
    have hS9 := hHeld.size; refine step_alloc 7 199 EZ 2 ez_zero ?_; intro W9 HB9 HX9 HS9
    refine hK.out _ _ (hHeld.trans (HB9.out.mono hHeld.size)) (fun hHeld => ?_)
    clear hK K
    refine wpAnyH_ready (rs := [10]) (by kernel_rfl) (by simp) ?_
    refine AllReadyH.cons rfl (fun K hK => ?_) AllReadyH.nil
    have HBX := Lib.hid (box_whole (cs := #[.int .i64 til, .pointer tk]) HX9.out rfl); refine step_store 7 20 199 _ _ _ (box_store (x := #[.int .i64 til, .pointer tk]) HX9.out ent_size (by kernel_rfl) rfl) rfl rfl ?_
    refine hK.out _ _ (below_setCells hS9 _ _ hHeld) (fun hHeld => ?_)
    clear hK K
    refine wpAnyH_take (i := 11) (oi := ⟨some 8, _, _, _, _, _⟩) (v := ?_) rfl (by kernel_rfl) (by kernel_rfl) (by kernel_rfl) (fun _ _ _ h => h) (Or.inl ⟨by rfl, ?_⟩) hHeld ?_
    rotate_left
    · intro w hSw
      go_simp
      try with_reducible rfl
    try simp only [Act.put, List.setIfInBounds_toArray, List.set_cons_zero, List.set_cons_succ]
    refine wpAnyH_done (by kernel_rfl) ?_ _
    have HE := Lib.hid hHeld
    clear hHeld
    try simp only [Act.put, List.setIfInBounds_toArray, List.set_cons_zero, List.set_cons_succ]
    generalize World.setCells _ _ 0 (#[.int .i64 til, .pointer tk] : Array Value).toList = wE at *
    go_wp2
    go_ret
    exact ⟨rfl, HX2.out.below HE.out, T2.out.trans (two_ofB HE.out)⟩
  · skip
    have hS9 := hHeld.size; refine step_alloc 7 199 EZ 2 ez_zero ?_; intro W9 HB9 HX9 HS9
    refine hK.out _ _ (hHeld.trans (HB9.out.mono hHeld.size)) (fun hHeld => ?_)
    clear hK K
    refine wpAnyH_ready (rs := [5]) (by kernel_rfl) (by simp) ?_
    refine AllReadyH.cons rfl (fun K hK => ?_) AllReadyH.nil
    go_simp
    go_wp2_with (go_at_call 69; go_must (refine (CG.out _ hHeld).mono ?_; rintro e w5 ⟨rfl, hB⟩))
    refine hK.out _ _ (hHeld.trans (hB.mono hHeld.size)) (fun hHeld => ?_)
    clear hK K
    have HX10 := Lib.hid (keep_block hB HX9.out)
    refine wpAnyH_take (i := 6) (oi := ⟨some 13, _, _, _, _, _⟩) (v := ?_) rfl (by kernel_rfl) (by kernel_rfl) (by kernel_rfl) (fun _ _ _ h => h) (Or.inl ⟨by rfl, ?_⟩) hHeld ?_
    rotate_left
    · intro w hSw
      go_simp
      try with_reducible rfl
    try simp only [Act.put, List.setIfInBounds_toArray, List.set_cons_zero, List.set_cons_succ]
    refine wpAnyH_take (i := 7) (oi := ⟨some 20, _, _, _, _, _⟩) (v := ?_) rfl (by kernel_rfl) (by kernel_rfl) (by kernel_rfl) (fun _ _ _ h => h) (Or.inl ⟨by rfl, ?_⟩) hHeld ?_
    rotate_left
    · intro w hSw
      go_simp
      try with_reducible rfl
    try simp only [Act.put, List.setIfInBounds_toArray, List.set_cons_zero, List.set_cons_succ]
    refine wpAnyH_take (i := 8) (oi := ⟨some 21, _, _, _, _, _⟩) (v := ?_) rfl (by kernel_rfl) (by kernel_rfl) (by kernel_rfl) (fun _ _ _ h => h) (Or.inl ⟨by rfl, ?_⟩) hHeld ?_
    rotate_left
    · intro w hSw
      go_simp
      try with_reducible rfl
    try simp only [Act.put, List.setIfInBounds_toArray, List.set_cons_zero, List.set_cons_succ]
    refine wpAnyH_ready (rs := [10]) (by kernel_rfl) (by simp) ?_
    refine AllReadyH.cons rfl (fun K hK => ?_) AllReadyH.nil
    have HBX := Lib.hid (box_whole (cs := #[.int .i64 til, .pointer tk]) HX10.out rfl); refine step_store 7 20 199 _ _ _ (box_store (x := #[.int .i64 til, .pointer tk]) HX10.out ent_size (by kernel_rfl) rfl) rfl rfl ?_
    refine hK.out _ _ (below_setCells hS9 _ _ hHeld) (fun hHeld => ?_)
    clear hK K
    refine wpAnyH_take (i := 11) (oi := ⟨some 8, _, _, _, _, _⟩) (v := ?_) rfl (by kernel_rfl) (by kernel_rfl) (by kernel_rfl) (fun _ _ _ h => h) (Or.inl ⟨by rfl, ?_⟩) hHeld ?_
    rotate_left
    · intro w hSw
      go_simp
      try with_reducible rfl
    try simp only [Act.put, List.setIfInBounds_toArray, List.set_cons_zero, List.set_cons_succ]
    refine wpAnyH_done (by kernel_rfl) ?_ _
    have HE := Lib.hid hHeld
    clear hHeld
    try simp only [Act.put, List.setIfInBounds_toArray, List.set_cons_zero, List.set_cons_succ]
    generalize World.setCells _ _ 0 (#[.int .i64 til, .pointer tk] : Array Value).toList = wE at *
    go_wp2
    go_ret
    exact ⟨rfl, HX2.out.below HE.out, T2.out.trans (two_ofB HE.out)⟩
end Go.Proofs.YtpanmfdbdgecaaaGreat.C

namespace Go.Proofs.YtpanmfdbdgecaaaGreat.C
open Go.RowKit
set_option linter.unusedVariables false
/-- The product of counts. -/
def mulC (x y : Int) : Int := if cnt x = 0 ∨ cnt y = 0 then 0 else if 4611686018427387904 / cnt y < cnt x then 4611686018427387904 else cnt x * cnt y
theorem num_mul (x y : Int) (w : World) : Calls Tryz.prog 89 #[.int .i64 x, .int .i64 y] w fun e w' => e = .returned (.int .i64 (mulC x y)) ∧ w' = w := by
  obtain ⟨a, ha⟩ : ∃ a, cnt x = a := ⟨_, rfl⟩
  obtain ⟨b, hb⟩ : ∃ b, cnt y = b := ⟨_, rfl⟩
  have CX : Hid (∀ w, Calls Tryz.prog 105 #[.int .i64 x] w fun e w' => e = .returned (.int .i64 a) ∧ w' = w) := by rw [← ha]; exact Lib.hid (num_count x)
  have CY : Hid (∀ w, Calls Tryz.prog 105 #[.int .i64 y] w fun e w' => e = .returned (.int .i64 b) ∧ w' = w) := by rw [← hb]; exact Lib.hid (num_count y)
  have hx := cnt_range x
  have hy := cnt_range y
  unfold mulC
  rw [ha] at hx ⊢
  rw [hb] at hy ⊢
  clear ha hb
  by_cases h0 : a = 0
  · subst h0
    rw [if_pos (.inl rfl)]
    go_enter Tryz.func89, Tryz.ntmps89
    go_wp2_with fail
    refine (CX.out _).mono ?_
    rintro e w1 ⟨rfl, rfl⟩
    go_wp2_with fail
    refine (CY.out _).mono ?_
    rintro e w2 ⟨rfl, rfl⟩
    go_wp2
    go_ret
    exact ⟨rfl, rfl⟩
  · have d0 : (a == 0) = false := by simpa using h0
    by_cases h1 : b = 0
    · subst h1
      rw [if_pos (.inr rfl)]
      go_enter Tryz.func89, Tryz.ntmps89
      go_wp2_with fail
      refine (CX.out _).mono ?_
      rintro e w1 ⟨rfl, rfl⟩
      go_wp2_with fail
      refine (CY.out _).mono ?_
      rintro e w2 ⟨rfl, rfl⟩
      go_wp2
      go_ret
      exact ⟨rfl, rfl⟩
    · have d1 : (b == 0) = false := by simpa using h1
      have hq : (4611686018427387904 : Int).tdiv b = 4611686018427387904 / b := Int.tdiv_eq_ediv_of_nonneg (by omega)
      have hq0 : 0 ≤ (4611686018427387904 : Int) / b := Int.ediv_nonneg (by omega) (by omega)
      have hq1 : (4611686018427387904 : Int) / b ≤ 4611686018427387904 := Int.ediv_le_self _ (by omega)
      have hwq : IntKind.i64.wrap (4611686018427387904 / b) = 4611686018427387904 / b := IntWalk.i64_in _ (by omega)
      rw [if_neg (by omega)]
      by_cases h2 : 4611686018427387904 / b < a
      · rw [if_pos h2]
        go_enter Tryz.func89, Tryz.ntmps89
        go_wp2_with fail
        refine (CX.out _).mono ?_
        rintro e w1 ⟨rfl, rfl⟩
        go_wp2_with fail
        refine (CY.out _).mono ?_
        rintro e w2 ⟨rfl, rfl⟩
        go_wp2
        go_ret
        exact ⟨rfl, rfl⟩
      · rw [if_neg h2]
        have hle : a * b ≤ 4611686018427387904 := by
          have h3 : a ≤ 4611686018427387904 / b := by omega
          have h4 : a * b ≤ 4611686018427387904 / b * b := Int.mul_le_mul_of_nonneg_right h3 (by omega)
          have h5 := Int.ediv_mul_le 4611686018427387904 h1
          omega
        have hge : 0 ≤ a * b := Int.mul_nonneg hx.1 hy.1
        have hw : IntKind.i64.wrap (a * b) = a * b := IntWalk.i64_in _ (by omega)
        have dd : decide (4611686018427387904 / b < a) = false := decide_eq_false h2
        go_enter Tryz.func89, Tryz.ntmps89
        go_wp2_with fail
        refine (CX.out _).mono ?_
        rintro e w1 ⟨rfl, rfl⟩
        go_wp2_with fail
        refine (CY.out _).mono ?_
        rintro e w2 ⟨rfl, rfl⟩
        go_wp2
        go_ret
        exact ⟨rfl, rfl⟩
theorem TkAt.cells {w : World} {b : Nat} {rate most level now : Int} (h : TkAt w b rate most level now) : w.cell? ⟨b, 0, none⟩ = some (.int .i64 rate) ∧ w.cell? ⟨b, 1, none⟩ = some (.int .i64 most) ∧ w.cell? ⟨b, 2, none⟩ = some (.int .i64 level) ∧ w.cell? ⟨b, 3, none⟩ = some (.int .i64 now) := by
  unfold TkAt at h
  rw [cell_of_row _ _ _ _ _ _ h, cell_of_row _ _ _ _ _ _ h, cell_of_row _ _ _ _ _ _ h, cell_of_row _ _ _ _ _ _ h]
  exact ⟨rfl, rfl, rfl, rfl⟩
theorem TkAt.below {w w' : World} {b : Nat} {rate most level now : Int} (h : TkAt w b rate most level now) (p : Below w.heap.size w w') : TkAt w' b rate most level now := keep_block p h
end Go.Proofs.YtpanmfdbdgecaaaGreat.C

namespace Go.Proofs.YtpanmfdbdgecaaaGreat.C
open Go.RowKit
set_option linter.unusedVariables false
end Go.Proofs.YtpanmfdbdgecaaaGreat.C

namespace Go.Proofs.YtpanmfdbdgecaaaGreat.C
open Go.RowKit
set_option linter.unusedVariables false
end Go.Proofs.YtpanmfdbdgecaaaGreat.C

namespace Go.Proofs.YtpanmfdbdgecaaaGreat.C
open Go.RowKit
set_option linter.unusedVariables false
/-- Who is in the table is in it for longer. -/
def Stays (l : List Plc) (now : Int) : Prop := ∀ p ∈ tkn l, ∃ (p0 p1 p2 : Nat) (til : Int) (tk : Option Addr), p = pfx p0 p1 p2 ∧ Gets l p0 p1 p2 til tk true ∧ now < til
end Go.Proofs.YtpanmfdbdgecaaaGreat.C

namespace Go.Proofs.YtpanmfdbdgecaaaGreat.C
open Go.RowKit
set_option linter.unusedVariables false
section
variable {P : Program} {ops : Array Oper} {rest : List Oper} {a : Act} {w : World} {Q : Exit → Act → World → Prop} {ty : TypeId} {pos : String} {after : Array Edge}
theorem arm_eql (d x y : Nat) (t : TypeId) (xs ys : Array Value) {ty' : TypeId} (hfx : Flat P t xs) (hfy : Flat P t ys) (hg : P.eqGuardType P.depth t = false) (hx : a.tmps.getD x undef = .agg xs) (hy : a.tmps.getD y undef = .agg ys)
    (h : wpList P ops Q rest (a.put (some d) (.bool (eqA xs ys))) w) :
    wpList P ops Q (⟨some d, .binOp .eql t (.tmp x) (.tmp y) ty', ty, pos, after, none⟩ :: rest) a w :=
  arm_eqlg d x y t xs ys hfx hfy hg hx hy (by simp [Region.wanted]) h
end
def SltOk (x : Slt) : Prop := Flat Tryz.prog 65 x.p ∧ x.p.size = 8 ∧ x.p.all (·.oneCell') = true
theorem sltC_len {x : Slt} (h : SltOk x) : (sltC x).length = 10 := by simp [sltC, h.2.1]
theorem sltC_all {x : Slt} (h : SltOk x) : (sltC x).toArray.all (·.oneCell') = true := by
  simp [sltC, Value.oneCell']
  intro i hi
  exact Array.all_eq_true.1 h.2.2 i hi
theorem slt_size : (Tryz.prog.info? 195).map (·.size) = some 10 := by kernel_rfl
theorem sltC_pf {x : Slt} (h : SltOk x) : (sltC x).toArray.extract 0 (0 + 8) = x.p := by
  have hps := h.2.1
  simp [sltC]
  rw [List.take_append_of_le_length (by simp [hps]), List.take_of_length_le (by simp [hps]), Array.toArray_toList]
set_option maxRecDepth 100000 in
theorem sketch_cmp (x : Slt) (p : Array Value) (pxb : Nat) (w : World) (hx : SltOk x) (hf : Flat Tryz.prog 65 p) (hp : p.size = 8) (hb : w.heap[pxb]? = some (.cells p 65 (0, 0))) :
    Calls Tryz.prog 165 #[.agg (sltC x).toArray, .pointer (some ⟨pxb, 0, none⟩)] w fun e w' => e = .returned (.bool (eqA x.p p)) ∧ Below w.heap.size w w' := by
  have hs1 : (Tryz.prog.info? 65).map (·.size) = some x.p.size := by rw [hx.2.1]; exact pf_size
  have hs2 : (Tryz.prog.info? 65).map (·.size) = some p.size := by rw [hp]; exact pf_size
  have hxp := sltC_pf hx
  have HFX := Lib.hid hx.1
  have HF := Lib.hid hf
  have HP := Lib.hid hb
  have HXP := Lib.hid (of_extract hxp)
  have HS1 := Lib.hid hs1
  have HS2 := Lib.hid hs2
  clear hx hf hb hxp hs1 hs2
  generalize (sltC x).toArray = X at *
  generalize x.p = xp at *
  go_enter Tryz.func165, Tryz.ntmps165
  go_upto_region 1 with ((with_reducible refine arm_box 2 0 195 X ?_ ?_); rfl; intro w1 HB HX HS)
  have hl1 := box_load_mid (t := 65) HX.out HXP.out _ Tryz.underlying65 rfl HS1.out
  have hl2 := box_load (t := 65) (keep_block HB.out HP.out) _ Tryz.underlying65 rfl HS2.out
  go_wp2_with (first
    | ((with_reducible refine arm_load 5 4 65 _ _ hl1 ?_ ?_); rfl)
    | ((with_reducible refine arm_load 6 1 65 _ _ hl2 ?_ ?_); rfl)
    | ((with_reducible refine arm_eql 7 5 6 65 xp p HFX.out HF.out pf_eqg ?_ ?_ ?_); rfl; rfl))
  go_ret
  exact ⟨rfl, HB.out⟩
/-- The place of a prefix; below 0: there is none. -/
noncomputable def fndS (l : List Slt) (p : Array Value) : Nat → Nat → Int
  | 0, _ => -1
  | m + 1, k =>
    match l[k]? with
    | none => -1
    | some x => if eqA x.p p = true then (k : Int) else fndS l p m (k + 1)
section
variable {w : World} {pb b room : Nat} {l : List Slt} {total : Int}
theorem SkAt.cells (h : SkAt w pb b l room total) : w.cell? ⟨pb, 0, none⟩ = some (.slice (some ⟨b, 0, none⟩) l.length room) ∧ w.cell? ⟨pb, 1, none⟩ = some (.int .i64 total) ∧ (∀ j, w.frozen? ⟨pb, j, none⟩ = false) := by
  rw [cell_of_row _ _ _ _ _ _ h.ptr, cell_of_row _ _ _ _ _ _ h.ptr]
  exact ⟨rfl, rfl, fun j => frozen_of_row _ _ _ _ _ h.ptr⟩
theorem SkAt.load (h : SkAt w pb b l room total) (hok : ∀ x ∈ l, SltOk x) {k : Nat} {x : Slt} (hx : l[k]? = some x) : (Instr.loadAt 195 (.pointer (some ⟨b, k * 10, none⟩))).run Tryz.prog w = .ok (.agg (sltC x).toArray) w := by
  obtain ⟨C, hC, hs, hr⟩ := h.row
  have hl : ∀ c ∈ l.map sltC, c.length = 10 := fun c hc => by
    obtain ⟨y, hy, rfl⟩ := List.mem_map.1 hc
    exact sltC_len (hok y hy)
  have hox := hok x (List.mem_of_getElem? hx)
  refine box_load_mid (t := 195) hC (fun j v hv => hr _ _ ?_) _ Tryz.underlying195 rfl (by rw [List.size_toArray, sltC_len hox]; exact slt_size)
  rw [List.toList_toArray] at hv
  have hj := (List.getElem?_eq_some_iff.1 hv).1
  rw [sltC_len hox] at hj
  exact (flat_at _ hl k j (sltC x) (by simp [hx]) hj).trans hv
end
set_option maxRecDepth 100000 in
set_option maxHeartbeats 1000000 in
theorem index_func (pb b room : Nat) (l : List Slt) (total : Int) (p : Array Value) (pxb : Nat) (w : World) (h : SkAt w pb b l room total) (hok : ∀ x ∈ l, SltOk x) (hf : Flat Tryz.prog 65 p) (hp : p.size = 8) (hb : w.heap[pxb]? = some (.cells p 65 (0, 0))) (hl : l.length ≤ 65536) (rm : Nat) :
    Calls Tryz.prog 164 #[.slice (some ⟨b, 0, none⟩) l.length rm, .func (.func 165) #[] #[.pointer (some ⟨pxb, 0, none⟩)]] w fun e w' => e = .returned (.int .i64 (fndS l p l.length 0)) ∧ Below w.heap.size w w' := by
  obtain ⟨n, hn⟩ : ∃ n, l.length = n := ⟨_, rfl⟩
  have HN := Lib.hid hn
  rw [hn] at hl ⊢
  have HH := Lib.hid h
  have HOK := Lib.hid hok
  have HB := Lib.hid hb
  have HF := Lib.hid hf
  clear hn h hok hb hf
  go_enter Tryz.func164, Tryz.ntmps164
  go_wp2_with fail
  go_loopw [8] (fun t wr => ∃ k : Nat, k ≤ n ∧ t = .int .i64 (k : Nat) ∧ fndS l p (n - k) k = fndS l p n 0 ∧ Below w.heap.size w wr) (fun t _ => n - (intOf t).toNat)
  case atStart => exact ⟨0, by omega, rfl, rfl, Below.refl _ _⟩
  case round =>
    obtain ⟨k, hk, rfl, hfn, hB⟩ := hrel
    have HFN := Lib.hid hfn
    have HBB := Lib.hid hB
    clear hfn hB
    by_cases hkn : k = n
    · subst hkn
      have e1 : fndS l p (k - k) k = -1 := by rw [Nat.sub_self]; rfl
      have HE1 := Lib.hid e1
      clear e1
      go_wp2
      go_ret
      exact ⟨by rw [← HFN.out, HE1.out]; rfl, HBB.out⟩
    · have hlt : (k : Int) < (n : Int) := by omega
      obtain ⟨x, hx⟩ : ∃ x, l[k]? = some x := ⟨_, List.getElem?_eq_getElem (by rw [HN.out]; omega)⟩
      have hld := (HH.out.below HBB.out).load HOK.out hx
      have CC := Lib.hid (sketch_cmp x p pxb wr (HOK.out x (List.mem_of_getElem? hx)) HF.out hp (keep_block HBB.out HB.out))
      have hfs : fndS l p (n - k) k = if eqA x.p p = true then (k : Int) else fndS l p (n - (k + 1)) (k + 1) := by
        obtain ⟨m, hm⟩ : ∃ m, n - k = m + 1 := ⟨n - k - 1, by omega⟩
        have hm2 : n - (k + 1) = m := by omega
        rw [hm, hm2]
        show (match l[k]? with | none => _ | some x => _) = _
        rw [hx]
      have HFS := Lib.hid hfs
      clear hfs hx
      generalize (sltC x).toArray = X at *
      obtain ⟨q, hq⟩ : ∃ q, eqA x.p p = q := ⟨_, rfl⟩
      rw [hq] at CC HFS
      clear hq
      have hs := HBB.out.size
      have hkw : IntKind.i64.wrap ((k : Int) + 1) = ((k + 1 : Nat) : Int) := by rw [IntWalk.i64_in _ (by omega)]; omega
      go_wp2_with ((with_reducible refine arm_load 15 14 195 _ _ hld ?_ ?_); rfl)
      refine CC.out.mono ?_
      rintro e w2 ⟨rfl, hb2⟩
      have HB3 := Lib.hid (HBB.out.trans (hb2.mono hs))
      clear hb2 hld CC
      cases q
      · have e1 := HFS.out
        rw [if_neg (by simp)] at e1
        have HE1 := Lib.hid e1
        clear e1
        go_wp2
        go_roundw
        case rel => exact ⟨k + 1, by omega, by go_num, by rw [← HE1.out]; exact HFN.out, HB3.out⟩
        case measure => simp [intOf]; omega
      · have e1 := HFS.out
        rw [if_pos rfl] at e1
        have HE1 := Lib.hid e1
        clear e1
        go_wp2
        go_ret
        exact ⟨by rw [← HFN.out, HE1.out]; rfl, HB3.out⟩
set_option maxRecDepth 100000 in
theorem sketch_find (pb b room : Nat) (l : List Slt) (total : Int) (p : Array Value) (w : World) (h : SkAt w pb b l room total) (hok : ∀ x ∈ l, SltOk x) (hf : Flat Tryz.prog 65 p) (hp : p.size = 8) (hl : l.length ≤ 65536) :
    Calls Tryz.prog 126 #[.pointer (some ⟨pb, 0, none⟩), .agg p] w fun e w' => e = .returned (.int .i64 (fndS l p l.length 0)) ∧ Below w.heap.size w w' := by
  have HH := Lib.hid h
  have HC : Hid (∀ w1, Below w.heap.size w w1 → w1.heap[w.heap.size]? = some (.cells p 65 (0, 0)) → Calls Tryz.prog 164 #[.slice (some ⟨b, 0, none⟩) l.length room, .func (.func 165) #[] #[.pointer (some ⟨w.heap.size, 0, none⟩)]] w1 fun e w' => e = .returned (.int .i64 (fndS l p l.length 0)) ∧ Below w1.heap.size w1 w') := Lib.hid fun w1 q hb => index_func pb b room l total p w.heap.size w1 (h.below q) hok hf hp hb hl room
  clear h hok hf
  generalize fndS l p l.length 0 = r at *
  go_enter Tryz.func126, Tryz.ntmps126
  go_upto_region 1 with ((with_reducible refine arm_box 3 1 65 p ?_ ?_); rfl; intro w1 HB HX HS)
  have k0 := (HH.out.below HB.out).cells.1
  have CI := Lib.hid (HC.out w1 HB.out HX.out)
  generalize l.length = n at *
  go_wp2_with fail
  refine CI.out.mono ?_
  rintro e w2 ⟨rfl, hb⟩
  have HB2 := Lib.hid (HB.out.trans (hb.mono HB.out.size))
  clear hb CI k0
  go_wp2
  go_ret
  exact ⟨rfl, HB2.out⟩
end Go.Proofs.YtpanmfdbdgecaaaGreat.C

namespace Go.Proofs.YtpanmfdbdgecaaaGreat.C
open Go.RowKit
set_option linter.unusedVariables false
section
variable {w : World} {pb b room : Nat} {l : List Slt} {total : Int}
theorem SkAt.ne (h : SkAt w pb b l room total) : pb ≠ b := by
  obtain ⟨C, hC, _⟩ := h.row
  exact ne_ty h.ptr hC (by decide)
theorem SkAt.drew (h : SkAt w pb b l room total) : SkAt w.drew pb b l room total := ⟨h.ptr, h.row, h.len, h.pre⟩
theorem SkAt.setTotal (h : SkAt w pb b l room total) (m : Int) : SkAt (w.setCell ⟨pb, 1, none⟩ (.int .i64 m)) pb b l room m := by
  obtain ⟨C, hC, h2, h3⟩ := h.row
  exact ⟨heap_setCell_same _ _ 1 _ _ (.int .i64 m) h.ptr, ⟨C, (heap_setCell_other _ _ _ _ (fun e => h.ne e.symm)).trans hC, h2, h3⟩, h.len, h.pre⟩
theorem sltC_len' {x : Slt} (h : x.p.size = 8) : (sltC x).length = 10 := by simp [sltC, h]
theorem SkAt.lens (h : SkAt w pb b l room total) : ∀ c ∈ l.map sltC, c.length = 10 := fun c hc => by
  obtain ⟨y, hy, rfl⟩ := List.mem_map.1 hc
  exact sltC_len' (h.pre y hy).1
/-- One more slot, in the room that is there. -/
theorem SkAt.push (h : SkAt w pb b l room total) (hlt : l.length < room) (y : Slt) (hy : y.p.size = 8 ∧ y.p.all (·.oneCell') = true) : SkAt ((w.setCells b (l.length * 10) (sltC y)).setCell ⟨pb, 0, none⟩ (.slice (some ⟨b, 0, none⟩) (l.length + 1) room)) pb b (l ++ [y]) room total := by
  obtain ⟨C, hC, h2, h3⟩ := h.row
  have hyl := sltC_len' hy.1
  have hfl : (l.map sltC).flatten.length = l.length * 10 := by rw [flat_length 10 _ h.lens, List.length_map]
  have hCl : C.toList.length = room * 10 := by simpa using h2
  have hb := block_setCells 195 (sltC y) (l.length * 10) w b C hC (by rw [hyl, h2]; omega)
  refine ⟨?_, ⟨_, (heap_setCell_other _ _ _ _ (fun e => h.ne e.symm)).trans hb, ?_, fun j v hv => ?_⟩, by rw [List.length_append]; exact hlt, fun x hx => ?_⟩
  · have := heap_setCell_same _ _ 0 _ _ (.slice (some ⟨b, 0, none⟩) (l.length + 1) room) ((heap_setCells_other (sltC y) (l.length * 10) w b pb h.ne).trans h.ptr)
    rw [List.length_append]
    exact this
  · rw [List.size_toArray, splice_length (by rw [hyl, hCl]; omega), hCl]
  · rw [List.getElem?_toArray, splice_at (by rw [hyl, hCl]; omega)]
    rw [List.map_append, List.flatten_append] at hv
    by_cases hj : j < l.length * 10
    · rw [if_pos hj, Array.getElem?_toList]
      rw [List.getElem?_append_left (by rw [hfl]; exact hj)] at hv
      exact h3 j v hv
    · rw [if_neg hj]
      rw [List.getElem?_append_right (by rw [hfl]; omega), hfl] at hv
      have hv' : (sltC y)[j - l.length * 10]? = some v := by simpa using hv
      have hjl := (List.getElem?_eq_some_iff.1 hv').1
      rw [if_pos (by omega)]
      exact hv'
  · rcases List.mem_append.1 hx with hx | hx
    · exact h.pre x hx
    · rw [List.mem_singleton.1 hx]
      exact hy
/-- A slot's count is written. -/
theorem SkAt.setCount (h : SkAt w pb b l room total) {i : Nat} {x : Slt} (hx : l[i]? = some x) (m : Int) : SkAt (w.setCell ⟨b, i * 10 + 8, none⟩ (.int .i64 m)) pb b (l.set i ⟨x.p, m, x.err⟩) room total := by
  obtain ⟨C, hC, h2, h3⟩ := h.row
  have hxl := (h.pre x (List.mem_of_getElem? hx))
  have hi := (List.getElem?_eq_some_iff.1 hx).1
  have k := heap_setCell_same _ _ (i * 10 + 8) _ _ (.int .i64 m) hC
  refine ⟨?_, ⟨_, k, by rw [Array.size_setIfInBounds]; exact h2, fun j v hv => ?_⟩, by rw [List.length_set]; exact h.len, fun y hy => ?_⟩
  · rw [heap_setCell_other _ _ _ _ h.ne, List.length_set]
    exact h.ptr
  · have e : (l.set i ⟨x.p, m, x.err⟩).map sltC = (l.map sltC).set i (sltC ⟨x.p, m, x.err⟩) := by rw [List.map_set]
    have hnl : (sltC (⟨x.p, m, x.err⟩ : Slt)).length = 10 := sltC_len' hxl.1
    have hfl : (l.map sltC).flatten.length = l.length * 10 := by rw [flat_length 10 _ h.lens, List.length_map]
    rw [e, flat_set _ h.lens i _ (by simpa using hi) hnl, splice_at (by rw [hnl, hfl]; omega), hnl] at hv
    have hold := h.lens
    by_cases hj : j = i * 10 + 8
    · subst hj
      rw [Array.getElem?_setIfInBounds_self_of_lt (by rw [h2]; have := h.len; omega)]
      rw [if_neg (by omega), if_pos (by omega)] at hv
      have : (sltC (⟨x.p, m, x.err⟩ : Slt))[i * 10 + 8 - i * 10]? = some (.int .i64 m) := by
        rw [show i * 10 + 8 - i * 10 = 8 by omega]
        simp [sltC, hxl.1]
      rw [this] at hv
      exact hv
    · rw [Array.getElem?_setIfInBounds_ne (by omega)]
      refine h3 j v ?_
      by_cases h1 : j < i * 10
      · rw [if_pos h1] at hv
        exact hv
      · rw [if_neg h1] at hv
        by_cases h4 : j < i * 10 + 10
        · rw [if_pos h4] at hv
          have hf := flat_at _ h.lens i (j - i * 10) (sltC x) (by simp [hx]) (by omega)
          rw [show i * 10 + (j - i * 10) = j by omega] at hf
          rw [hf, ← hv]
          have hne : j - i * 10 ≠ 8 := by omega
          unfold sltC
          by_cases h5 : j - i * 10 < 8
          · rw [List.getElem?_append_left (by simp [hxl.1]; exact h5), List.getElem?_append_left (by simp [hxl.1]; exact h5)]
          · have h9 : j - i * 10 = 9 := by omega
            rw [h9]
            simp [hxl.1]
        · rw [if_neg h4] at hv
          exact hv
  · rcases List.mem_or_eq_of_mem_set hy with hy | rfl
    · exact h.pre y hy
    · exact hxl
theorem SkAt.count (h : SkAt w pb b l room total) {i : Nat} {x : Slt} (hx : l[i]? = some x) : w.cell? ⟨b, i * 10 + 8, none⟩ = some (.int .i64 x.count) ∧ (∀ j, w.frozen? ⟨b, j, none⟩ = false) := by
  obtain ⟨C, hC, h2, h3⟩ := h.row
  have hxl := (h.pre x (List.mem_of_getElem? hx))
  refine ⟨cells_of_row hC _ _ (h3 _ _ ?_), fun j => frozen_of_row _ _ _ _ _ hC⟩
  have := flat_at _ h.lens i 8 (sltC x) (by simp [hx]) (by omega)
  rw [this]
  simp [sltC, hxl.1]
theorem SkAt.reset (h : SkAt w pb b l room total) : SkAt ((w.setCell ⟨pb, 0, none⟩ (.slice (some ⟨b, 0, none⟩) 0 room)).setCell ⟨pb, 1, none⟩ (.int .i64 0)) pb b [] room 0 := by
  obtain ⟨C, hC, h2, h3⟩ := h.row
  exact ⟨heap_setCell_same _ _ 1 _ _ (.int .i64 0) (heap_setCell_same _ _ 0 _ _ (.slice (some ⟨b, 0, none⟩) 0 room) h.ptr), ⟨C, (heap_setCell_other _ _ _ _ (fun e => h.ne e.symm)).trans ((heap_setCell_other _ _ _ _ (fun e => h.ne e.symm)).trans hC), h2, fun j v hv => by simp at hv⟩, Nat.zero_le _, fun x hx => by cases hx⟩
theorem sketch_reset (h : SkAt w pb b l room total) : Calls Tryz.prog 66 #[.pointer (some ⟨pb, 0, none⟩)] w fun e w' => e = .returned (.tuple #[]) ∧ SkAt w' pb b [] room 0 ∧ Two pb b w w' := by
  obtain ⟨k0, k1, ff⟩ := h.cells
  have f0 := ff 0
  have f1 := ff 1
  have HR := Lib.hid h.reset
  have HT := Lib.hid (Two.setCell (g := pb) (h := b) (x := ⟨pb, 1, none⟩) (Two.setCell (g := pb) (h := b) (x := ⟨pb, 0, none⟩) (Two.refl pb b w) (.inl rfl) (.slice (some ⟨b, 0, none⟩) 0 room)) (.inl rfl) (.int .i64 0))
  have hr : ((0 : Nat) : Int) ≤ (room : Int) := by omega
  clear h ff
  go_enter Tryz.func66, Tryz.ntmps66
  go_wp2
  go_end0
  exact ⟨rfl, HR.out, HT.out⟩
end
end Go.Proofs.YtpanmfdbdgecaaaGreat.C
