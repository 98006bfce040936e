/- Prefixes of IPv4: their equality. · The sketch: where a prefix is. · The sketch: Add, Reset. · The box's table: where a prefix is. · The box's table: Get, Put of a new one. · The box's table: Put of a new one. -/
import Derived.Test.YtpanmfdbdgecaaaGreatV6
import Derived.Deep.RegionLaw
import Derived.StillTailTactics
namespace Go.Proofs.YtpanmfdbdgecaaaGreat.C
open Go.RowKit
set_option linter.unusedVariables false
theorem lit_u8 (a : Nat) (h : a < 256) : Tryz.prog.keyLits 1 5 [.int .u8 (a : Nat)] = some [.int .u8 (a : Nat)] := by
  have hw : (Lit.int .u8 (a : Nat)).wf = true := by
    simp [Lit.wf, IntKind.min, IntKind.max, IntKind.bits, IntKind.signed]
    omega
  simp [Program.keyLits, Tryz.underlying5, hw]
theorem lit_pfx (a b c : Nat) (ha : a < 256) (hb : b < 256) (hc : c < 256) : ∃ L, Tryz.prog.keyLits 3 65 (pfx a b c).toList = some L := by
  have e1 : Tryz.prog.cellsOf 65 = 8 := by kernel_rfl
  have e2 : Tryz.prog.cellsOf 63 = 7 := by kernel_rfl
  have e3 : Tryz.prog.cellsOf 5 = 1 := by kernel_rfl
  have e4 : Tryz.prog.cellsOf 4 = 1 := by kernel_rfl
  have z := lit_u8 0 (by omega)
  have la := lit_u8 a ha
  have lb := lit_u8 b hb
  have lc := lit_u8 c hc
  have z' : Tryz.prog.keyLits 1 5 [.int .u8 0] = some [.int .u8 0] := z
  have k2 : Tryz.prog.keyLits 2 63 [.int .u8 (a : Nat), .int .u8 (b : Nat), .int .u8 (c : Nat), .int .u8 0, .int .u8 0, .int .u8 0, .int .u8 0] = some [.int .u8 (a : Nat), .int .u8 (b : Nat), .int .u8 (c : Nat), .int .u8 0, .int .u8 0, .int .u8 0, .int .u8 0] := by
    unfold Program.keyLits
    simp [Tryz.underlying63, e2, e3, la, lb, lc, z', show List.range 7 = [0, 1, 2, 3, 4, 5, 6] from rfl]
  have k4 : Tryz.prog.keyLits 2 4 [.bool false] = some [.bool false] := by simp [Program.keyLits, Tryz.underlying4]
  refine ⟨[.bool false, .int .u8 (a : Nat), .int .u8 (b : Nat), .int .u8 (c : Nat), .int .u8 0, .int .u8 0, .int .u8 0, .int .u8 0], ?_⟩
  unfold Program.keyLits
  simp [Tryz.underlying65, e1, pfx, e2, e4, k2, k4]
theorem pfx_flat (a b c : Nat) (ha : a < 256) (hb : b < 256) (hc : c < 256) : Flat Tryz.prog 65 (pfx a b c) := by
  obtain ⟨L, hL⟩ := lit_pfx a b c ha hb hc
  exact ⟨3, L, by kernel_rfl, by kernel_rfl, by decide, by kernel_rfl, by kernel_rfl, hL⟩
theorem pfx_pre (a b c : Nat) : Pre (pfx a b c) false := ⟨rfl, rfl, by kernel_rfl⟩
/-- The bytes of a prefix. -/
def pfF (a b c j : Nat) : Nat := [0, a, b, c, 0, 0, 0, 0].getD j 0
theorem pfF_lt {a b c : Nat} (ha : a < 256) (hb : b < 256) (hc : c < 256) (j : Nat) : pfF a b c j < 256 := by
  unfold pfF
  match j with
  | 0 => exact Nat.zero_lt_succ _
  | 1 => exact ha
  | 2 => exact hb
  | 3 => exact hc
  | 4 => exact Nat.zero_lt_succ _
  | 5 => exact Nat.zero_lt_succ _
  | 6 => exact Nat.zero_lt_succ _
  | 7 => exact Nat.zero_lt_succ _
  | j + 8 => exact Nat.zero_lt_succ _
theorem pfx_bytes (a b c : Nat) : bytesP (pfx a b c) false = bv ((List.range 8).map (pfF a b c)) := by kernel_rfl
/-- What a call owns, as a frame's bytes. -/
theorem fr_of_own {w : World} {base n c : Nat} {A : Option Addr} {F : Nat → Nat} (ho : w.ownsRow base 5 1 (.slice A n c) n (bv ((List.range n).map F))) (h0 : 1 ≤ n) (hF : ∀ j, F j < 256) : ∃ g, A = some ⟨g, 0, none⟩ ∧ base ≤ g ∧ FrAt w g 0 n c F := by
  obtain ⟨g3, rfl, hb, hcap⟩ : ∃ g3, A = some ⟨g3, 0, none⟩ ∧ base ≤ g3 ∧ g3 < w.heap.size := by
    rcases ho.2 with ⟨_, h1⟩ | ⟨g2, cap, cur, hv, hg, hh, _⟩
    · exact absurd h1 (by omega)
    · injection hv with h4 h5 h6
      exact ⟨g2, h4, hg, (Array.getElem?_eq_some_iff.1 hh).1⟩
  refine ⟨g3, rfl, hb, fun j hj => ?_, hF, OW.cap ho, hcap⟩
  have := ho.cells (g := g3) rfl j (.int .u8 (F j : Nat)) (by simp [bv, List.getElem?_range hj])
  rw [OW.addr_off] at this
  exact this
/-- The sum of a prefix's bytes. -/
def pfH (a b c : Nat) : Int := sipSum (fun _ => 0) (pfF a b c) 8
section
variable {P : Program} {ops : Array Oper} {rest : List Oper} {a : Act} {w : World} {Q : Exit → Act → World → Prop} {ty : TypeId} {pos : String} {after : Array Edge}
theorem arm_eqlg (d x y : Nat) (t : TypeId) (xs ys : Array Value) {ty' : TypeId} {g : Option (Nat × Bool)} (hfx : Flat P t xs) (hfy : Flat P t ys) (hg : P.eqGuardType P.depth t = false) (hx : a.tmps.getD x undef = .agg xs) (hy : a.tmps.getD y undef = .agg ys)
    (hw : Region.wanted ⟨some d, .binOp .eql t (.tmp x) (.tmp y) ty', ty, pos, after, g⟩ (yielded ops a.tmps) = true) (h : wpList P ops Q rest (a.put (some d) (.bool (eqA xs ys))) w) :
    wpList P ops Q (⟨some d, .binOp .eql t (.tmp x) (.tmp y) ty', ty, pos, after, g⟩ :: rest) a w :=
  wpList_step fun _ hK => by
    rw [if_pos hw]
    have hx' : a.eval (.tmp x) = .agg xs := hx
    have hy' : a.eval (.tmp y) = .agg ys := hy
    have h1 := hfx.equal hfy w
    unfold Oper.wp execOp
    simp [hx', hy', eqGuard, binOp, Sem.run_bind, hg, h1]
    exact hK _ _ h
end
theorem pf_eqg : Tryz.prog.eqGuardType Tryz.prog.depth 65 = false := by kernel_rfl
end Go.Proofs.YtpanmfdbdgecaaaGreat.C

namespace Go.Proofs.YtpanmfdbdgecaaaGreat.C
open Go.RowKit
set_option linter.unusedVariables false
section
variable {P : Program} {ops : Array Oper} {rest : List Oper} {a : Act} {w : World} {Q : Exit → Act → World → Prop} {ty : TypeId} {pos : String} {after : Array Edge}
theorem arm_eql (d x y : Nat) (t : TypeId) (xs ys : Array Value) {ty' : TypeId} (hfx : Flat P t xs) (hfy : Flat P t ys) (hg : P.eqGuardType P.depth t = false) (hx : a.tmps.getD x undef = .agg xs) (hy : a.tmps.getD y undef = .agg ys)
    (h : wpList P ops Q rest (a.put (some d) (.bool (eqA xs ys))) w) :
    wpList P ops Q (⟨some d, .binOp .eql t (.tmp x) (.tmp y) ty', ty, pos, after, none⟩ :: rest) a w :=
  arm_eqlg d x y t xs ys hfx hfy hg hx hy (by simp [Region.wanted]) h
end
def SltOk (x : Slt) : Prop := Flat Tryz.prog 65 x.p ∧ x.p.size = 8 ∧ x.p.all (·.oneCell') = true
theorem sltC_len {x : Slt} (h : SltOk x) : (sltC x).length = 10 := by simp [sltC, h.2.1]
theorem sltC_all {x : Slt} (h : SltOk x) : (sltC x).toArray.all (·.oneCell') = true := by
  simp [sltC, Value.oneCell']
  intro i hi
  exact Array.all_eq_true.1 h.2.2 i hi
theorem slt_size : (Tryz.prog.info? 195).map (·.size) = some 10 := by kernel_rfl
theorem sltC_pf {x : Slt} (h : SltOk x) : (sltC x).toArray.extract 0 (0 + 8) = x.p := by
  have hps := h.2.1
  simp [sltC]
  rw [List.take_append_of_le_length (by simp [hps]), List.take_of_length_le (by simp [hps]), Array.toArray_toList]
set_option maxRecDepth 100000 in
theorem sketch_cmp (x : Slt) (p : Array Value) (pxb : Nat) (w : World) (hx : SltOk x) (hf : Flat Tryz.prog 65 p) (hp : p.size = 8) (hb : w.heap[pxb]? = some (.cells p 65 (0, 0))) :
    Calls Tryz.prog 165 #[.agg (sltC x).toArray, .pointer (some ⟨pxb, 0, none⟩)] w fun e w' => e = .returned (.bool (eqA x.p p)) ∧ Below w.heap.size w w' := by
  have hs1 : (Tryz.prog.info? 65).map (·.size) = some x.p.size := by rw [hx.2.1]; exact pf_size
  have hs2 : (Tryz.prog.info? 65).map (·.size) = some p.size := by rw [hp]; exact pf_size
  have hxp := sltC_pf hx
  have HFX := Lib.hid hx.1
  have HF := Lib.hid hf
  have HP := Lib.hid hb
  have HXP := Lib.hid (of_extract hxp)
  have HS1 := Lib.hid hs1
  have HS2 := Lib.hid hs2
  clear hx hf hb hxp hs1 hs2
  generalize (sltC x).toArray = X at *
  generalize x.p = xp at *
  go_enter Tryz.func165, Tryz.ntmps165
  go_upto_region 1 with ((with_reducible refine arm_box 2 0 195 X ?_ ?_); rfl; intro w1 HB HX HS)
  have hl1 := box_load_mid (t := 65) HX.out HXP.out _ Tryz.underlying65 rfl HS1.out
  have hl2 := box_load (t := 65) (keep_block HB.out HP.out) _ Tryz.underlying65 rfl HS2.out
  go_wp2_with (first
    | ((with_reducible refine arm_load 5 4 65 _ _ hl1 ?_ ?_); rfl)
    | ((with_reducible refine arm_load 6 1 65 _ _ hl2 ?_ ?_); rfl)
    | ((with_reducible refine arm_eql 7 5 6 65 xp p HFX.out HF.out pf_eqg ?_ ?_ ?_); rfl; rfl))
  go_ret
  exact ⟨rfl, HB.out⟩
/-- The place of a prefix; below 0: there is none. -/
noncomputable def fndS (l : List Slt) (p : Array Value) : Nat → Nat → Int
  | 0, _ => -1
  | m + 1, k =>
    match l[k]? with
    | none => -1
    | some x => if eqA x.p p = true then (k : Int) else fndS l p m (k + 1)
section
variable {w : World} {pb b room : Nat} {l : List Slt} {total : Int}
theorem SkAt.cells (h : SkAt w pb b l room total) : w.cell? ⟨pb, 0, none⟩ = some (.slice (some ⟨b, 0, none⟩) l.length room) ∧ w.cell? ⟨pb, 1, none⟩ = some (.int .i64 total) ∧ (∀ j, w.frozen? ⟨pb, j, none⟩ = false) := by
  rw [cell_of_row _ _ _ _ _ _ h.ptr, cell_of_row _ _ _ _ _ _ h.ptr]
  exact ⟨rfl, rfl, fun j => frozen_of_row _ _ _ _ _ h.ptr⟩
theorem SkAt.load (h : SkAt w pb b l room total) (hok : ∀ x ∈ l, SltOk x) {k : Nat} {x : Slt} (hx : l[k]? = some x) : (Instr.loadAt 195 (.pointer (some ⟨b, k * 10, none⟩))).run Tryz.prog w = .ok (.agg (sltC x).toArray) w := by
  obtain ⟨C, hC, hs, hr⟩ := h.row
  have hl : ∀ c ∈ l.map sltC, c.length = 10 := fun c hc => by
    obtain ⟨y, hy, rfl⟩ := List.mem_map.1 hc
    exact sltC_len (hok y hy)
  have hox := hok x (List.mem_of_getElem? hx)
  refine box_load_mid (t := 195) hC (fun j v hv => hr _ _ ?_) _ Tryz.underlying195 rfl (by rw [List.size_toArray, sltC_len hox]; exact slt_size)
  rw [List.toList_toArray] at hv
  have hj := (List.getElem?_eq_some_iff.1 hv).1
  rw [sltC_len hox] at hj
  exact (flat_at _ hl k j (sltC x) (by simp [hx]) hj).trans hv
end
set_option maxRecDepth 100000 in
set_option maxHeartbeats 1000000 in
theorem index_func (pb b room : Nat) (l : List Slt) (total : Int) (p : Array Value) (pxb : Nat) (w : World) (h : SkAt w pb b l room total) (hok : ∀ x ∈ l, SltOk x) (hf : Flat Tryz.prog 65 p) (hp : p.size = 8) (hb : w.heap[pxb]? = some (.cells p 65 (0, 0))) (hl : l.length ≤ 65536) (rm : Nat) :
    Calls Tryz.prog 164 #[.slice (some ⟨b, 0, none⟩) l.length rm, .func (.func 165) #[] #[.pointer (some ⟨pxb, 0, none⟩)]] w fun e w' => e = .returned (.int .i64 (fndS l p l.length 0)) ∧ Below w.heap.size w w' := by
  obtain ⟨n, hn⟩ : ∃ n, l.length = n := ⟨_, rfl⟩
  have HN := Lib.hid hn
  rw [hn] at hl ⊢
  have HH := Lib.hid h
  have HOK := Lib.hid hok
  have HB := Lib.hid hb
  have HF := Lib.hid hf
  clear hn h hok hb hf
  go_enter Tryz.func164, Tryz.ntmps164
  go_wp2_with fail
  go_loopw [8] (fun t wr => ∃ k : Nat, k ≤ n ∧ t = .int .i64 (k : Nat) ∧ fndS l p (n - k) k = fndS l p n 0 ∧ Below w.heap.size w wr) (fun t _ => n - (intOf t).toNat)
  case atStart => exact ⟨0, by omega, rfl, rfl, Below.refl _ _⟩
  case round =>
    obtain ⟨k, hk, rfl, hfn, hB⟩ := hrel
    have HFN := Lib.hid hfn
    have HBB := Lib.hid hB
    clear hfn hB
    by_cases hkn : k = n
    · subst hkn
      have e1 : fndS l p (k - k) k = -1 := by rw [Nat.sub_self]; rfl
      have HE1 := Lib.hid e1
      clear e1
      go_wp2
      go_ret
      exact ⟨by rw [← HFN.out, HE1.out]; rfl, HBB.out⟩
    · have hlt : (k : Int) < (n : Int) := by omega
      obtain ⟨x, hx⟩ : ∃ x, l[k]? = some x := ⟨_, List.getElem?_eq_getElem (by rw [HN.out]; omega)⟩
      have hld := (HH.out.below HBB.out).load HOK.out hx
      have CC := Lib.hid (sketch_cmp x p pxb wr (HOK.out x (List.mem_of_getElem? hx)) HF.out hp (keep_block HBB.out HB.out))
      have hfs : fndS l p (n - k) k = if eqA x.p p = true then (k : Int) else fndS l p (n - (k + 1)) (k + 1) := by
        obtain ⟨m, hm⟩ : ∃ m, n - k = m + 1 := ⟨n - k - 1, by omega⟩
        have hm2 : n - (k + 1) = m := by omega
        rw [hm, hm2]
        show (match l[k]? with | none => _ | some x => _) = _
        rw [hx]
      have HFS := Lib.hid hfs
      clear hfs hx
      generalize (sltC x).toArray = X at *
      obtain ⟨q, hq⟩ : ∃ q, eqA x.p p = q := ⟨_, rfl⟩
      rw [hq] at CC HFS
      clear hq
      have hs := HBB.out.size
      have hkw : IntKind.i64.wrap ((k : Int) + 1) = ((k + 1 : Nat) : Int) := by rw [IntWalk.i64_in _ (by omega)]; omega
      go_wp2_with ((with_reducible refine arm_load 15 14 195 _ _ hld ?_ ?_); rfl)
      refine CC.out.mono ?_
      rintro e w2 ⟨rfl, hb2⟩
      have HB3 := Lib.hid (HBB.out.trans (hb2.mono hs))
      clear hb2 hld CC
      cases q
      · have e1 := HFS.out
        rw [if_neg (by simp)] at e1
        have HE1 := Lib.hid e1
        clear e1
        go_wp2
        go_roundw
        case rel => exact ⟨k + 1, by omega, by go_num, by rw [← HE1.out]; exact HFN.out, HB3.out⟩
        case measure => simp [intOf]; omega
      · have e1 := HFS.out
        rw [if_pos rfl] at e1
        have HE1 := Lib.hid e1
        clear e1
        go_wp2
        go_ret
        exact ⟨by rw [← HFN.out, HE1.out]; rfl, HB3.out⟩
set_option maxRecDepth 100000 in
theorem sketch_find (pb b room : Nat) (l : List Slt) (total : Int) (p : Array Value) (w : World) (h : SkAt w pb b l room total) (hok : ∀ x ∈ l, SltOk x) (hf : Flat Tryz.prog 65 p) (hp : p.size = 8) (hl : l.length ≤ 65536) :
    Calls Tryz.prog 126 #[.pointer (some ⟨pb, 0, none⟩), .agg p] w fun e w' => e = .returned (.int .i64 (fndS l p l.length 0)) ∧ Below w.heap.size w w' := by
  have HH := Lib.hid h
  have HC : Hid (∀ w1, Below w.heap.size w w1 → w1.heap[w.heap.size]? = some (.cells p 65 (0, 0)) → Calls Tryz.prog 164 #[.slice (some ⟨b, 0, none⟩) l.length room, .func (.func 165) #[] #[.pointer (some ⟨w.heap.size, 0, none⟩)]] w1 fun e w' => e = .returned (.int .i64 (fndS l p l.length 0)) ∧ Below w1.heap.size w1 w') := Lib.hid fun w1 q hb => index_func pb b room l total p w.heap.size w1 (h.below q) hok hf hp hb hl room
  clear h hok hf
  generalize fndS l p l.length 0 = r at *
  go_enter Tryz.func126, Tryz.ntmps126
  go_upto_region 1 with ((with_reducible refine arm_box 3 1 65 p ?_ ?_); rfl; intro w1 HB HX HS)
  have k0 := (HH.out.below HB.out).cells.1
  have CI := Lib.hid (HC.out w1 HB.out HX.out)
  generalize l.length = n at *
  go_wp2_with fail
  refine CI.out.mono ?_
  rintro e w2 ⟨rfl, hb⟩
  have HB2 := Lib.hid (HB.out.trans (hb.mono HB.out.size))
  clear hb CI k0
  go_wp2
  go_ret
  exact ⟨rfl, HB2.out⟩
end Go.Proofs.YtpanmfdbdgecaaaGreat.C

namespace Go.Proofs.YtpanmfdbdgecaaaGreat.C
open Go.RowKit
set_option linter.unusedVariables false
section
variable {w : World} {pb b room : Nat} {l : List Slt} {total : Int}
theorem SkAt.ne (h : SkAt w pb b l room total) : pb ≠ b := by
  obtain ⟨C, hC, _⟩ := h.row
  exact ne_ty h.ptr hC (by decide)
theorem SkAt.drew (h : SkAt w pb b l room total) : SkAt w.drew pb b l room total := ⟨h.ptr, h.row, h.len, h.pre⟩
theorem SkAt.setTotal (h : SkAt w pb b l room total) (m : Int) : SkAt (w.setCell ⟨pb, 1, none⟩ (.int .i64 m)) pb b l room m := by
  obtain ⟨C, hC, h2, h3⟩ := h.row
  exact ⟨heap_setCell_same _ _ 1 _ _ (.int .i64 m) h.ptr, ⟨C, (heap_setCell_other _ _ _ _ (fun e => h.ne e.symm)).trans hC, h2, h3⟩, h.len, h.pre⟩
theorem sltC_len' {x : Slt} (h : x.p.size = 8) : (sltC x).length = 10 := by simp [sltC, h]
theorem SkAt.lens (h : SkAt w pb b l room total) : ∀ c ∈ l.map sltC, c.length = 10 := fun c hc => by
  obtain ⟨y, hy, rfl⟩ := List.mem_map.1 hc
  exact sltC_len' (h.pre y hy).1
/-- One more slot, in the room that is there. -/
theorem SkAt.push (h : SkAt w pb b l room total) (hlt : l.length < room) (y : Slt) (hy : y.p.size = 8 ∧ y.p.all (·.oneCell') = true) : SkAt ((w.setCells b (l.length * 10) (sltC y)).setCell ⟨pb, 0, none⟩ (.slice (some ⟨b, 0, none⟩) (l.length + 1) room)) pb b (l ++ [y]) room total := by
  obtain ⟨C, hC, h2, h3⟩ := h.row
  have hyl := sltC_len' hy.1
  have hfl : (l.map sltC).flatten.length = l.length * 10 := by rw [flat_length 10 _ h.lens, List.length_map]
  have hCl : C.toList.length = room * 10 := by simpa using h2
  have hb := block_setCells 195 (sltC y) (l.length * 10) w b C hC (by rw [hyl, h2]; omega)
  refine ⟨?_, ⟨_, (heap_setCell_other _ _ _ _ (fun e => h.ne e.symm)).trans hb, ?_, fun j v hv => ?_⟩, by rw [List.length_append]; exact hlt, fun x hx => ?_⟩
  · have := heap_setCell_same _ _ 0 _ _ (.slice (some ⟨b, 0, none⟩) (l.length + 1) room) ((heap_setCells_other (sltC y) (l.length * 10) w b pb h.ne).trans h.ptr)
    rw [List.length_append]
    exact this
  · rw [List.size_toArray, splice_length (by rw [hyl, hCl]; omega), hCl]
  · rw [List.getElem?_toArray, splice_at (by rw [hyl, hCl]; omega)]
    rw [List.map_append, List.flatten_append] at hv
    by_cases hj : j < l.length * 10
    · rw [if_pos hj, Array.getElem?_toList]
      rw [List.getElem?_append_left (by rw [hfl]; exact hj)] at hv
      exact h3 j v hv
    · rw [if_neg hj]
      rw [List.getElem?_append_right (by rw [hfl]; omega), hfl] at hv
      have hv' : (sltC y)[j - l.length * 10]? = some v := by simpa using hv
      have hjl := (List.getElem?_eq_some_iff.1 hv').1
      rw [if_pos (by omega)]
      exact hv'
  · rcases List.mem_append.1 hx with hx | hx
    · exact h.pre x hx
    · rw [List.mem_singleton.1 hx]
      exact hy
/-- A slot's count is written. -/
theorem SkAt.setCount (h : SkAt w pb b l room total) {i : Nat} {x : Slt} (hx : l[i]? = some x) (m : Int) : SkAt (w.setCell ⟨b, i * 10 + 8, none⟩ (.int .i64 m)) pb b (l.set i ⟨x.p, m, x.err⟩) room total := by
  obtain ⟨C, hC, h2, h3⟩ := h.row
  have hxl := (h.pre x (List.mem_of_getElem? hx))
  have hi := (List.getElem?_eq_some_iff.1 hx).1
  have k := heap_setCell_same _ _ (i * 10 + 8) _ _ (.int .i64 m) hC
  refine ⟨?_, ⟨_, k, by rw [Array.size_setIfInBounds]; exact h2, fun j v hv => ?_⟩, by rw [List.length_set]; exact h.len, fun y hy => ?_⟩
  · rw [heap_setCell_other _ _ _ _ h.ne, List.length_set]
    exact h.ptr
  · have e : (l.set i ⟨x.p, m, x.err⟩).map sltC = (l.map sltC).set i (sltC ⟨x.p, m, x.err⟩) := by rw [List.map_set]
    have hnl : (sltC (⟨x.p, m, x.err⟩ : Slt)).length = 10 := sltC_len' hxl.1
    have hfl : (l.map sltC).flatten.length = l.length * 10 := by rw [flat_length 10 _ h.lens, List.length_map]
    rw [e, flat_set _ h.lens i _ (by simpa using hi) hnl, splice_at (by rw [hnl, hfl]; omega), hnl] at hv
    have hold := h.lens
    by_cases hj : j = i * 10 + 8
    · subst hj
      rw [Array.getElem?_setIfInBounds_self_of_lt (by rw [h2]; have := h.len; omega)]
      rw [if_neg (by omega), if_pos (by omega)] at hv
      have : (sltC (⟨x.p, m, x.err⟩ : Slt))[i * 10 + 8 - i * 10]? = some (.int .i64 m) := by
        rw [show i * 10 + 8 - i * 10 = 8 by omega]
        simp [sltC, hxl.1]
      rw [this] at hv
      exact hv
    · rw [Array.getElem?_setIfInBounds_ne (by omega)]
      refine h3 j v ?_
      by_cases h1 : j < i * 10
      · rw [if_pos h1] at hv
        exact hv
      · rw [if_neg h1] at hv
        by_cases h4 : j < i * 10 + 10
        · rw [if_pos h4] at hv
          have hf := flat_at _ h.lens i (j - i * 10) (sltC x) (by simp [hx]) (by omega)
          rw [show i * 10 + (j - i * 10) = j by omega] at hf
          rw [hf, ← hv]
          have hne : j - i * 10 ≠ 8 := by omega
          unfold sltC
          by_cases h5 : j - i * 10 < 8
          · rw [List.getElem?_append_left (by simp [hxl.1]; exact h5), List.getElem?_append_left (by simp [hxl.1]; exact h5)]
          · have h9 : j - i * 10 = 9 := by omega
            rw [h9]
            simp [hxl.1]
        · rw [if_neg h4] at hv
          exact hv
  · rcases List.mem_or_eq_of_mem_set hy with hy | rfl
    · exact h.pre y hy
    · exact hxl
theorem SkAt.count (h : SkAt w pb b l room total) {i : Nat} {x : Slt} (hx : l[i]? = some x) : w.cell? ⟨b, i * 10 + 8, none⟩ = some (.int .i64 x.count) ∧ (∀ j, w.frozen? ⟨b, j, none⟩ = false) := by
  obtain ⟨C, hC, h2, h3⟩ := h.row
  have hxl := (h.pre x (List.mem_of_getElem? hx))
  refine ⟨cells_of_row hC _ _ (h3 _ _ ?_), fun j => frozen_of_row _ _ _ _ _ hC⟩
  have := flat_at _ h.lens i 8 (sltC x) (by simp [hx]) (by omega)
  rw [this]
  simp [sltC, hxl.1]
theorem SkAt.reset (h : SkAt w pb b l room total) : SkAt ((w.setCell ⟨pb, 0, none⟩ (.slice (some ⟨b, 0, none⟩) 0 room)).setCell ⟨pb, 1, none⟩ (.int .i64 0)) pb b [] room 0 := by
  obtain ⟨C, hC, h2, h3⟩ := h.row
  exact ⟨heap_setCell_same _ _ 1 _ _ (.int .i64 0) (heap_setCell_same _ _ 0 _ _ (.slice (some ⟨b, 0, none⟩) 0 room) h.ptr), ⟨C, (heap_setCell_other _ _ _ _ (fun e => h.ne e.symm)).trans ((heap_setCell_other _ _ _ _ (fun e => h.ne e.symm)).trans hC), h2, fun j v hv => by simp at hv⟩, Nat.zero_le _, fun x hx => by cases hx⟩
theorem sketch_reset (h : SkAt w pb b l room total) : Calls Tryz.prog 66 #[.pointer (some ⟨pb, 0, none⟩)] w fun e w' => e = .returned (.tuple #[]) ∧ SkAt w' pb b [] room 0 ∧ Two pb b w w' := by
  obtain ⟨k0, k1, ff⟩ := h.cells
  have f0 := ff 0
  have f1 := ff 1
  have HR := Lib.hid h.reset
  have HT := Lib.hid (Two.setCell (g := pb) (h := b) (x := ⟨pb, 1, none⟩) (Two.setCell (g := pb) (h := b) (x := ⟨pb, 0, none⟩) (Two.refl pb b w) (.inl rfl) (.slice (some ⟨b, 0, none⟩) 0 room)) (.inl rfl) (.int .i64 0))
  have hr : ((0 : Nat) : Int) ≤ (room : Int) := by omega
  clear h ff
  go_enter Tryz.func66, Tryz.ntmps66
  go_wp2
  go_end0
  exact ⟨rfl, HR.out, HT.out⟩
end
end Go.Proofs.YtpanmfdbdgecaaaGreat.C

namespace Go.Proofs.YtpanmfdbdgecaaaGreat.C
open Go.RowKit
set_option linter.unusedVariables false
/-- Where a prefix is, and where it might go: from a place on, so many places. -/
noncomputable def fnd (l : List Plc) (p : Array Value) (fr : Nat) : Nat → Nat → Int → Int × Int
  | 0, _, spot => (-1, spot)
  | m + 1, k, spot =>
    match l[(fr + k) % l.length]? with
    | none => (-1, spot)
    | some x =>
      if x.state = 1 ∧ eqA x.p p = true then ((((fr + k) % l.length : Nat) : Int), spot)
      else if x.state = 0 then (-1, if x.state ≠ 1 ∧ spot < 0 then (((fr + k) % l.length : Nat) : Int) else spot)
      else fnd l p fr m (k + 1) (if x.state ≠ 1 ∧ spot < 0 then (((fr + k) % l.length : Nat) : Int) else spot)
def KZ : Array Value := (List.replicate 16 (Value.int .u8 0)).toArray
theorem build_key (w : World) : (Instr.build 22 #[]).run Tryz.prog w = .ok (.agg KZ) w := run_build w 22 _ _ (by kernel_rfl)
theorem plcC_len {l : List Plc} (h : ∀ x ∈ l, x.p.size = 8 ∧ x.p.all (·.oneCell') = true) : ∀ c ∈ l.map plcC, c.length = 11 := fun c hc => by
  obtain ⟨x, hx, rfl⟩ := List.mem_map.1 hc
  simp [plcC, (h x hx).1]
theorem tpl_zero : (Tryz.prog.info? 274).map (fun i => (i.zero, i.size)) = some (some (.agg (plcC plc0).toArray), 11) := by kernel_rfl
theorem tpl_size : (Tryz.prog.info? 274).map (·.size) = some 11 := by kernel_rfl
section
variable {w : World} {pb b room : Nat} {l : List Plc} {n : Int}
theorem TbAt.cells (h : TbAt w pb b l room n) : w.cell? ⟨pb, 0, none⟩ = some (.slice (some ⟨b, 0, none⟩) l.length l.length) ∧ w.cell? ⟨pb, 1, none⟩ = some (.int .i64 (room : Nat)) ∧ w.cell? ⟨pb, 2, none⟩ = some (.int .i64 n) ∧ (∀ j, w.frozen? ⟨pb, j, none⟩ = false) := by
  rw [cell_of_row _ _ _ _ _ _ h.ptr, cell_of_row _ _ _ _ _ _ h.ptr, cell_of_row _ _ _ _ _ _ h.ptr]
  exact ⟨rfl, rfl, rfl, fun j => frozen_of_row _ _ _ _ _ h.ptr⟩
theorem TbAt.at (h : TbAt w pb b l room n) {i : Nat} {x : Plc} (hx : l[i]? = some x) : ∀ (j : Nat) (v : Value), (plcC x).toArray.toList[j]? = some v → (l.map plcC).flatten.toArray[i * 11 + j]? = some v := fun j v hv => by
  have hl := plcC_len h.pre
  have hm : (l.map plcC)[i]? = some (plcC x) := by simp [hx]
  have hxl : (plcC x).length = 11 := hl _ (List.mem_of_getElem? hm)
  rw [List.toList_toArray] at hv
  have hj := (List.getElem?_eq_some_iff.1 hv).1
  rw [List.getElem?_toArray]
  exact (flat_at _ hl i j (plcC x) hm (by omega)).trans hv
end
set_option maxRecDepth 100000 in
set_option maxHeartbeats 2000000 in
theorem table_find (pb b room : Nat) (l : List Plc) (nn : Int) (p0 p1 p2 : Nat) (w : World) (h : TbAt w pb b l room nn) (hpf : ∀ x ∈ l, Flat Tryz.prog 65 x.p) (h0 : p0 < 256) (h1 : p1 < 256) (h2 : p2 < 256) (hl0 : 1 ≤ l.length) (hl1 : l.length ≤ 65536) :
    Calls Tryz.prog 129 #[.pointer (some ⟨pb, 0, none⟩), .agg (pfx p0 p1 p2)] w fun e w' => e = .returned (.tuple #[.int .i64 (fnd l (pfx p0 p1 p2) (pfH p0 p1 p2 % l.length).toNat l.length 0 (-1)).1, .int .i64 (fnd l (pfx p0 p1 p2) (pfH p0 p1 p2 % l.length).toNat l.length 0 (-1)).2]) ∧ Below w.heap.size w w' := by
  have hHr : 0 ≤ pfH p0 p1 p2 ∧ pfH p0 p1 p2 < 18446744073709551616 := sipSum_range _ _ _
  have HPF := Lib.hid hpf
  have HH := Lib.hid h
  have hsk : ∀ (kv : Array Value) (pg g o c : Nat) (w : World), (∀ j, j < 16 → kv[j]? = some (.int .u8 ((0 : Nat) : Int))) → w.cell? ⟨pg, 0, none⟩ = some (.slice (some ⟨g, o, none⟩) 8 c) → FrAt w g o 8 c (pfF p0 p1 p2) → Calls Tryz.prog 166 #[.agg kv, .slice (some ⟨pg, 0, none⟩) 1 1] w fun e w' => e = .returned (.int .u64 (pfH p0 p1 p2)) ∧ Below w.heap.size w w' := fun kv pg g o c w h1 h2 h3 => sip_sum kv (fun _ => 0) pg g o 8 c (pfF p0 p1 p2) w h1 h2 h3 (by omega) (by omega)
  have HSK := Lib.hid hsk
  have hfl := pfx_flat p0 p1 p2 h0 h1 h2
  have hbo := fun w => bytes_of (pfx p0 p1 p2) false w (pfx_pre p0 p1 p2)
  rw [pfx_bytes] at hbo
  have HBO := Lib.hid hbo
  have HFL := Lib.hid hfl
  have hps : (Tryz.prog.info? 65).map (·.size) = some (pfx p0 p1 p2).size := pf_size
  have HPS := Lib.hid hps
  clear hsk hfl hpf h hbo hps
  generalize pfH p0 p1 p2 = H at *
  generalize pfx p0 p1 p2 = p at *
  have hkz := build_key
  have hkz2 : ∀ j, j < 16 → KZ[j]? = some (.int .u8 ((0 : Nat) : Int)) := fun j hj => by
    unfold KZ
    rw [List.getElem?_toArray, List.getElem?_replicate, if_pos hj]
    rfl
  generalize KZ = kz at *
  have HKZ := Lib.hid hkz
  have HKZ2 := Lib.hid hkz2
  clear hkz hkz2
  obtain ⟨n, hn⟩ : ∃ n, l.length = n := ⟨_, rfl⟩
  rw [hn] at hl0 hl1 ⊢
  have HN := Lib.hid hn
  obtain ⟨fr, hfr0⟩ : ∃ fr, (H % (n : Int)).toNat = fr := ⟨_, rfl⟩
  rw [hfr0]
  have htm : H.tmod (n : Int) = (fr : Int) := by
    rw [← hfr0, Int.tmod_eq_emod_of_nonneg hHr.1, Int.toNat_of_nonneg (Int.emod_nonneg _ (by omega))]
  have hfrn : fr < n := by
    have := Int.emod_lt_of_pos H (show (0 : Int) < n by omega)
    have := Int.emod_nonneg H (show (n : Int) ≠ 0 by omega)
    omega
  clear hfr0 hn
  go_enter Tryz.func129, Tryz.ntmps129
  go_upto_region 1 with ((with_reducible refine arm_box 3 1 65 p ?_ ?_); rfl; intro w1 HB HX HS)
  have h1' := HH.out.below HB.out
  obtain ⟨c0, c1, c2, ff⟩ := h1'.cells
  rw [HN.out] at c0
  have HT1 := Lib.hid h1'
  clear h1' c1 c2 ff
  have HLD : Hid (∀ w', Below w1.heap.size w1 w' → (Instr.loadAt 65 (.pointer (some ⟨w.heap.size, 0, none⟩))).run Tryz.prog w' = .ok (.agg p) w' ∧ w'.cell? ⟨pb, 0, none⟩ = some (.slice (some ⟨b, 0, none⟩) n n)) := Lib.hid fun w' q =>
    ⟨box_load (t := 65) (keep_block q HX.out) _ Tryz.underlying65 rfl HPS.out, by rw [(HT1.out.below q).cells.1, HN.out]⟩
  have hpn : ¬ n = 0 := by omega
  have hw1 : IntKind.u64.wrap (n : Int) = (n : Int) := by rw [IntKind.wrap_u64]; omega
  go_wp2_with fail
  refine wp_region_held_drew (S := Below w1.heap.size w1) (by kernel_rfl) (Below.refl _ _).drew (fun hHeld => ?_)
  refine wpAnyH_take (i := 0) (oi := ⟨some 13, _, _, _, _, _⟩) (v := .agg kz) rfl (by kernel_rfl) (by kernel_rfl) (by kernel_rfl) (fun _ _ _ h => h) (Or.inl ⟨by rfl, fun w hSw => exec_build (vals := #[]) (by simp) (HKZ.out w)⟩) hHeld ?_
  try simp only [Act.put, List.setIfInBounds_toArray, List.set_cons_zero, List.set_cons_succ]
  refine wpAnyH_take (i := 1) (oi := ⟨some 14, _, _, _, _, _⟩) (v := .agg p) rfl (by kernel_rfl) (by kernel_rfl) (by kernel_rfl) (fun _ _ _ h => h) (Or.inl ⟨by rfl, fun w hSw => exec_load rfl (HLD.out w hSw).1⟩) hHeld ?_
  try simp only [Act.put, List.setIfInBounds_toArray, List.set_cons_zero, List.set_cons_succ]
  refine wpAnyH_take (i := 5) (oi := ⟨some 18, _, _, _, _, _⟩) (v := ?_) rfl (by kernel_rfl) (by kernel_rfl) (by kernel_rfl) (fun _ _ _ h => h) (Or.inl ⟨by rfl, ?_⟩) hHeld ?_
  rotate_left
  · intro w hSw
    go_simp
    try with_reducible rfl
  try simp only [Act.put, List.setIfInBounds_toArray, List.set_cons_zero, List.set_cons_succ]
  refine wpAnyH_take (i := 6) (oi := ⟨some 19, _, _, _, _, _⟩) (v := ?_) rfl (by kernel_rfl) (by kernel_rfl) (by kernel_rfl) (fun _ _ _ h => h) (Or.inl ⟨by rfl, ?_⟩) hHeld ?_
  rotate_left
  · intro w hSw
    go_simp
    try with_reducible rfl
  try simp only [Act.put, List.setIfInBounds_toArray, List.set_cons_zero, List.set_cons_succ]
  refine wpAnyH_take (i := 7) (oi := ⟨some 20, _, _, _, _, _⟩) (v := ?_) rfl (by kernel_rfl) (by kernel_rfl) (by kernel_rfl) (fun _ _ _ h => h) (Or.inl ⟨by rfl, ?_⟩) hHeld ?_
  rotate_left
  · intro w hSw
    go_simp
    try with_reducible rfl
  try simp only [Act.put, List.setIfInBounds_toArray, List.set_cons_zero, List.set_cons_succ]
  refine wpAnyH_take (i := 8) (oi := ⟨some 21, _, _, _, _, _⟩) (v := ?_) rfl (by kernel_rfl) (by kernel_rfl) (by kernel_rfl) (fun _ _ _ h => h) (Or.inl ⟨by rfl, ?_⟩) hHeld ?_
  rotate_left
  · intro w hSw
    obtain k0 := (HLD.out w hSw).2
    go_simp
    try with_reducible rfl
  try simp only [Act.put, List.setIfInBounds_toArray, List.set_cons_zero, List.set_cons_succ]
  refine wpAnyH_take (i := 9) (oi := ⟨some 22, _, _, _, _, _⟩) (v := ?_) rfl (by kernel_rfl) (by kernel_rfl) (by kernel_rfl) (fun _ _ _ h => h) (Or.inl ⟨by rfl, ?_⟩) hHeld ?_
  rotate_left
  · intro w hSw
    go_simp
    try with_reducible rfl
  try simp only [Act.put, List.setIfInBounds_toArray, List.set_cons_zero, List.set_cons_succ]
  refine wpAnyH_take (i := 10) (oi := ⟨some 23, _, _, _, _, _⟩) (v := ?_) rfl (by kernel_rfl) (by kernel_rfl) (by kernel_rfl) (fun _ _ _ h => h) (Or.inl ⟨by rfl, ?_⟩) hHeld ?_
  rotate_left
  · intro w hSw
    go_simp
    try with_reducible rfl
  try simp only [Act.put, List.setIfInBounds_toArray, List.set_cons_zero, List.set_cons_succ]
  refine wpAnyH_ready (rs := [2]) (by kernel_rfl) (by simp) ?_
  refine AllReadyH.cons rfl (fun K hK => ?_) AllReadyH.nil
  go_simp
  go_wp2_with (go_at_call 163; go_must (refine (HBO.out _).mono ?_; rintro e w2 ⟨u, rfl, ho, hB⟩))
  refine hK.out _ _ (hHeld.trans (hB.mono hHeld.size)) (fun hHeld => ?_)
  clear hK K
  obtain ⟨A2, cp2, rfl⟩ := OW.slice ho
  obtain ⟨g2, rfl, _, hfr⟩ := fr_of_own ho (by omega) (pfF_lt h0 h1 h2)
  have HFR := Lib.hid hfr
  clear ho hB hfr
  have hpc := cells_of_row (Go.heap_alloc_new w2 (.cells #[.slice (some ⟨g2, 0, none⟩) 8 cp2] 37)) 0 _ rfl
  have hf3 := HFR.out.below HFR.out.blk ((Below.refl w2.heap.size w2).alloc (Nat.le_refl _) (.cells #[.slice (some ⟨g2, 0, none⟩) 8 cp2] 37)) (Nat.le_refl _)
  have HPC := Lib.hid hpc
  have HF3 := Lib.hid hf3
  clear hpc hf3
  refine wpAnyH_ready (rs := [3]) (by kernel_rfl) (by simp) ?_
  refine AllReadyH.cons rfl (fun K hK => ?_) AllReadyH.nil
  go_simp
  refine hK.out _ _ (hHeld.alloc hHeld.size _) (fun hHeld => ?_)
  clear hK K
  refine wpAnyH_ready (rs := [4]) (by kernel_rfl) (by simp) ?_
  refine AllReadyH.cons rfl (fun K hK => ?_) AllReadyH.nil
  go_simp
  go_wp2_with (go_at_call 166; go_must (refine (HSK.out kz _ _ _ _ _ HKZ2.out HPC.out HF3.out).mono ?_; rintro e w4 ⟨rfl, hB⟩))
  refine hK.out _ _ (hHeld.trans (hB.mono hHeld.size)) (fun hHeld => ?_)
  clear hK K
  refine wpAnyH_take (i := 11) (oi := ⟨some 24, _, _, _, _, _⟩) (v := ?_) rfl (by kernel_rfl) (by kernel_rfl) (by kernel_rfl) (fun _ _ _ h => h) (Or.inl ⟨by rfl, ?_⟩) hHeld ?_
  rotate_left
  · intro w hSw
    go_simp
    try with_reducible rfl
  try simp only [Act.put, List.setIfInBounds_toArray, List.set_cons_zero, List.set_cons_succ]
  refine wpAnyH_take (i := 12) (oi := ⟨some 7, _, _, _, _, _⟩) (v := ?_) rfl (by kernel_rfl) (by kernel_rfl) (by kernel_rfl) (fun _ _ _ h => h) (Or.inl ⟨by rfl, ?_⟩) hHeld ?_
  rotate_left
  · intro w hSw
    go_simp
    try with_reducible rfl
  try simp only [Act.put, List.setIfInBounds_toArray, List.set_cons_zero, List.set_cons_succ]
  refine wpAnyH_done (by kernel_rfl) ?_ _
  have hw2 : IntKind.i64.wrap (fr : Int) = (fr : Int) := IntWalk.i64_in _ (by omega)
  obtain ⟨wz, hwz⟩ : ∃ z, z = w := ⟨_, rfl⟩
  have k0 := (HLD.out _ hHeld).2
  have HBH := Lib.hid hHeld
  clear hHeld
  go_upto_region 6 with (fail)
  have htz := tpl_zero
  obtain ⟨TZ, hTZ⟩ : ∃ Z, (plcC plc0).toArray = Z := ⟨_, rfl⟩
  have hTZs : TZ.size = 11 := by rw [← hTZ]; rfl
  rw [hTZ] at htz
  have HTZ := Lib.hid htz
  have HTZS := Lib.hid hTZs
  clear htz hTZs hTZ k0 c0
  go_loopw [6, 30] (fun s t wr => ∃ (k : Nat) (spot : Int), k ≤ n ∧ s = .int .i64 spot ∧ t = .int .i64 (k : Nat) ∧ (-1 ≤ spot ∧ spot < n) ∧ fnd l p fr (n - k) k spot = fnd l p fr n 0 (-1) ∧ Below w1.heap.size w1 wr) (fun _ t _ => n - (intOf t).toNat)
  case atStart => exact ⟨0, -1, by omega, rfl, rfl, by omega, rfl, HBH.out⟩
  case round =>
    obtain ⟨k, spot, hk, rfl, rfl, hsp, hfn, hB⟩ := hrel
    have HB3 := Lib.hid hB
    have HFN := Lib.hid hfn
    clear hB hfn
    have hs1 := HB.out.size
    by_cases hkn : k = n
    · subst hkn
      have e0 : fnd l p fr (k - k) k spot = (-1, spot) := by rw [Nat.sub_self]; rfl
      have e1 := HFN.out
      rw [e0] at e1
      have HE1 := Lib.hid e1
      clear e0 e1
      go_wp2
      go_ret2
      exact ⟨by rw [← HE1.out]; rfl, HB.out.trans (HB3.out.mono hs1)⟩
    · have hlt : (k : Int) < (n : Int) := by omega
      have hkw : IntKind.i64.wrap ((k : Int) + 1) = ((k + 1 : Nat) : Int) := by rw [IntWalk.i64_in _ (by omega)]; omega
      obtain ⟨at', hat⟩ : ∃ a, (fr + k) % n = a := ⟨_, rfl⟩
      have hatn : at' < n := by rw [← hat]; exact Nat.mod_lt _ (by omega)
      have haw : IntKind.i64.wrap ((fr : Int) + (k : Int)) = ((fr + k : Nat) : Int) := by rw [IntWalk.i64_in _ (by omega)]; omega
      have htm2 : (((fr + k : Nat) : Int)).tmod (n : Int) = (at' : Int) := by rw [Int.tmod_eq_emod_of_nonneg (by omega), ← hat]; omega
      have htm3 : ((fr : Int) + (k : Int)).tmod (n : Int) = (at' : Int) := by rw [← htm2]; congr 1
      obtain ⟨x, hx⟩ : ∃ x, l[at']? = some x := ⟨_, List.getElem?_eq_getElem (by rw [HN.out]; exact hatn)⟩
      have hT3 := HT1.out.below HB3.out
      have k0 := (HLD.out _ HB3.out).2
      have hatI : (at' : Int) < (n : Int) := by omega
      have hld := box_load_mid (t := 274) hT3.row (hT3.at hx) _ Tryz.underlying274 rfl (by rw [List.size_toArray, plcC_len hT3.pre _ (by exact List.mem_map.2 ⟨x, List.mem_of_getElem? hx, rfl⟩)]; exact tpl_size)
      have hst0 : wr.cell? ⟨b, at' * 11, none⟩ = some (.int .i64 x.state) := cells_of_row hT3.row (at' * 11) _ (hT3.at hx 0 _ rfl)
      have hxs : (Tryz.prog.info? 274).map (·.size) = some (plcC x).toArray.size := by rw [List.size_toArray, plcC_len hT3.pre _ (by exact List.mem_map.2 ⟨x, List.mem_of_getElem? hx, rfl⟩)]; exact tpl_size
      have hx11 : (plcC x).toArray.size = 11 := by rw [List.size_toArray]; exact plcC_len hT3.pre _ (by exact List.mem_map.2 ⟨x, List.mem_of_getElem? hx, rfl⟩)
      have hpx := hT3.pre x (List.mem_of_getElem? hx)
      have hxa : (plcC x).toArray.all (·.oneCell') = true := by
        simp [plcC, Value.oneCell', tokV]
        intro i hi
        exact Array.all_eq_true.1 hpx.2 i hi
      have hfs : fnd l p fr (n - k) k spot = if x.state = 1 ∧ eqA x.p p = true then ((at' : Int), spot) else if x.state = 0 then (-1, if x.state ≠ 1 ∧ spot < 0 then (at' : Int) else spot) else fnd l p fr (n - (k + 1)) (k + 1) (if x.state ≠ 1 ∧ spot < 0 then (at' : Int) else spot) := by
        obtain ⟨m, hm⟩ : ∃ m, n - k = m + 1 := ⟨n - k - 1, by omega⟩
        have hm2 : n - (k + 1) = m := by omega
        rw [hm, hm2]
        show (match l[(fr + k) % l.length]? with | none => _ | some x => _) = _
        rw [HN.out, hat, hx]
      have hff := HPF.out x (List.mem_of_getElem? hx)
      have hxp : (plcC x).toArray.extract 1 (1 + 8) = x.p := by
        have hps := hpx.1
        simp [plcC]
        rw [List.take_append_of_le_length (by simp [hps]), List.take_of_length_le (by simp [hps]), Array.toArray_toList]
      have HFS := Lib.hid hfs
      clear hfs
      have hct : ∀ w', Below w1.heap.size w1 w' → w'.cell? ⟨b, at' * 11, none⟩ = some (.int .i64 x.state) := fun w' q => cells_of_row (HT1.out.below q).row (at' * 11) _ ((HT1.out.below q).at hx 0 _ rfl)
      have HCT := Lib.hid hct
      clear hct
      have hX0 : (plcC x).toArray[0]? = some (.int .i64 x.state) := rfl
      generalize (plcC x).toArray = X at *
      have hpsx : (Tryz.prog.info? 65).map (·.size) = some x.p.size := by rw [hpx.1]; exact pf_size
      have HKS := Lib.hid hpsx
      have HXA := Lib.hid hxa
      have HXS := Lib.hid hxs
      have HXP := Lib.hid hxp
      have HX0 := Lib.hid hX0
      have HX11 := Lib.hid hx11
      have HFF := Lib.hid hff
      have HT3 := Lib.hid hT3
      have HXX := Lib.hid hx
      clear hX0 hpsx hxa hxs hxp hx11 hff hT3 hpx hx hat htm2
      generalize x.state = st at *
      generalize x.p = xp at *
      have hs3 := HB3.out.size
      have hbw : b < w1.heap.size := (Array.getElem?_eq_some_iff.1 HT1.out.row).1
      go_upto_region 10 with (first
        | ((with_reducible refine arm_load 49 48 274 _ _ hld ?_ ?_); rfl)
        | ((with_reducible refine arm_alloc 10 274 TZ 11 HTZ.out ?_); intro w5 HB5 HX5 HS5; have hst := box_store (t := 274) (x := X) HX5.out HXS.out HXA.out (HTZS.out.trans HX11.out.symm); have hbx := Lib.hid (box_whole (cs := X) HX5.out (HX11.out.trans HTZS.out.symm)); have hf5 := Lib.hid (below_setCells (b := wr.heap.size) (Nat.le_refl _) X.toList 0 HB5.out))
        | ((with_reducible refine arm_store 10 49 274 _ _ _ hst ?_ ?_ ?_); rfl; rfl))
      have HB6 := Lib.hid (HB3.out.trans (hf5.out.mono hs3))
      have hb6 := hbx.out
      clear hst hld hbx hf5 HX5 HB5 HS5 hst0 k0
      generalize World.setCells w5 _ 0 X.toList = w6 at *
      generalize wr.heap.size = tb at *
      have k0 := (HLD.out _ HB6.out).2
      have hT6 := HT1.out.below HB6.out
      have ks := cells_of_row hb6 0 _ HX0.out
      have hlp := box_load_mid (t := 65) hb6 (of_extract HXP.out) _ Tryz.underlying65 rfl HKS.out
      have hlq := (HLD.out _ HB6.out).1
      have kt := HCT.out _ HB6.out
      have hfin := HB.out.trans (HB6.out.mono hs1)
      have HFIN := Lib.hid hfin
      clear hfin hT6 hb6 hkw hs3 hbw
      by_cases hst1 : st = 1
      · subst hst1
        obtain ⟨q, hq⟩ : ∃ q, eqA xp p = q := ⟨_, rfl⟩
        cases q
        · have e1 : fnd l p fr (n - k) k spot = fnd l p fr (n - (k + 1)) (k + 1) spot := by
            rw [HFS.out, if_neg (by rw [hq]; simp), if_neg (by decide), if_neg (by simp)]
          have HE1 := Lib.hid e1
          clear e1
          go_wp2_with (first | ((with_reducible refine arm_loadg 56 55 65 _ _ hlp ?_ ?_ ?_); rfl; rfl) | ((with_reducible refine arm_loadg 57 3 65 _ _ hlq ?_ ?_ ?_); rfl; rfl) | ((with_reducible refine arm_eqlg 58 56 57 65 xp p HFF.out HFL.out pf_eqg ?_ ?_ ?_ ?_); rfl; rfl; rfl))
          refine ⟨⟨k + 1, spot, by omega, rfl, by congr 1, by omega, by rw [← HE1.out]; exact HFN.out, HB6.out⟩, by simp only [intOf]; omega⟩
        · have e1 : fnd l p fr (n - k) k spot = ((at' : Int), spot) := by
            rw [HFS.out, if_pos ⟨rfl, hq⟩]
          have HE1 := Lib.hid e1
          clear e1
          go_wp2_with (first | ((with_reducible refine arm_loadg 56 55 65 _ _ hlp ?_ ?_ ?_); rfl; rfl) | ((with_reducible refine arm_loadg 57 3 65 _ _ hlq ?_ ?_ ?_); rfl; rfl) | ((with_reducible refine arm_eqlg 58 56 57 65 xp p HFF.out HFL.out pf_eqg ?_ ?_ ?_ ?_); rfl; rfl; rfl))
          go_ret2
          exact ⟨by rw [← HFN.out, HE1.out]; rfl, HFIN.out⟩
      · have hb1 : (st == 1) = false := beq_false_of_ne hst1
        by_cases hst0 : st = 0
        · subst hst0
          by_cases hsp0 : spot < 0
          · have e1 : fnd l p fr (n - k) k spot = (-1, (at' : Int)) := by
              rw [HFS.out, if_neg (by simp), if_pos rfl, if_pos ⟨by decide, hsp0⟩]
            have HE1 := Lib.hid e1
            clear e1
            go_wp2_with (first | ((with_reducible refine arm_loadg 56 55 65 _ _ hlp ?_ ?_ ?_); rfl; rfl) | ((with_reducible refine arm_loadg 57 3 65 _ _ hlq ?_ ?_ ?_); rfl; rfl) | ((with_reducible refine arm_eqlg 58 56 57 65 xp p HFF.out HFL.out pf_eqg ?_ ?_ ?_ ?_); rfl; rfl; rfl))
            go_ret2
            exact ⟨by rw [← HFN.out, HE1.out]; rfl, HFIN.out⟩
          · have e1 : fnd l p fr (n - k) k spot = (-1, spot) := by
              rw [HFS.out, if_neg (by simp), if_pos rfl, if_neg (by omega)]
            have HE1 := Lib.hid e1
            clear e1
            go_wp2_with (first | ((with_reducible refine arm_loadg 56 55 65 _ _ hlp ?_ ?_ ?_); rfl; rfl) | ((with_reducible refine arm_loadg 57 3 65 _ _ hlq ?_ ?_ ?_); rfl; rfl) | ((with_reducible refine arm_eqlg 58 56 57 65 xp p HFF.out HFL.out pf_eqg ?_ ?_ ?_ ?_); rfl; rfl; rfl))
            go_ret2
            exact ⟨by rw [← HFN.out, HE1.out]; rfl, HFIN.out⟩
        · have hb0 : (st == 0) = false := beq_false_of_ne hst0
          by_cases hsp0 : spot < 0
          · have e1 : fnd l p fr (n - k) k spot = fnd l p fr (n - (k + 1)) (k + 1) (at' : Int) := by
              rw [HFS.out, if_neg (by simp [hst1]), if_neg hst0, if_pos ⟨hst1, hsp0⟩]
            have HE1 := Lib.hid e1
            clear e1
            go_wp2_with (first | ((with_reducible refine arm_loadg 56 55 65 _ _ hlp ?_ ?_ ?_); rfl; rfl) | ((with_reducible refine arm_loadg 57 3 65 _ _ hlq ?_ ?_ ?_); rfl; rfl) | ((with_reducible refine arm_eqlg 58 56 57 65 xp p HFF.out HFL.out pf_eqg ?_ ?_ ?_ ?_); rfl; rfl; rfl))
            refine ⟨⟨k + 1, (at' : Int), by omega, rfl, by congr 1, by omega, by rw [← HE1.out]; exact HFN.out, HB6.out⟩, by simp only [intOf]; omega⟩
          · have e1 : fnd l p fr (n - k) k spot = fnd l p fr (n - (k + 1)) (k + 1) spot := by
              rw [HFS.out, if_neg (by simp [hst1]), if_neg hst0, if_neg (by omega)]
            have HE1 := Lib.hid e1
            clear e1
            go_wp2_with (first | ((with_reducible refine arm_loadg 56 55 65 _ _ hlp ?_ ?_ ?_); rfl; rfl) | ((with_reducible refine arm_loadg 57 3 65 _ _ hlq ?_ ?_ ?_); rfl; rfl) | ((with_reducible refine arm_eqlg 58 56 57 65 xp p HFF.out HFL.out pf_eqg ?_ ?_ ?_ ?_); rfl; rfl; rfl))
            refine ⟨⟨k + 1, spot, by omega, rfl, by congr 1, by omega, by rw [← HE1.out]; exact HFN.out, HB6.out⟩, by simp only [intOf]; omega⟩
end Go.Proofs.YtpanmfdbdgecaaaGreat.C

namespace Go.Proofs.YtpanmfdbdgecaaaGreat.C
open Go.RowKit
set_option linter.unusedVariables false
/-- The place of a prefix; below 0: none. -/
noncomputable def at1 (l : List Plc) (p0 p1 p2 : Nat) : Int × Int := fnd l (pfx p0 p1 p2) (pfH p0 p1 p2 % l.length).toNat l.length 0 (-1)
section
variable {w : World} {pb b room : Nat} {l : List Plc} {nn : Int}
theorem TbAt.entry (h : TbAt w pb b l room nn) {i : Nat} {x : Plc} (hx : l[i]? = some x) : w.cell? ⟨b, i * 11 + 9, none⟩ = some (.int .i64 x.til) ∧ w.cell? ⟨b, i * 11 + 10, none⟩ = some (tokV x.tok) ∧ w.cell? ⟨b, i * 11, none⟩ = some (.int .i64 x.state) := by
  have hp := (h.pre x (List.mem_of_getElem? hx)).1
  have h9 : (plcC x).toArray.toList[9]? = some (.int .i64 x.til) := by
    simp [plcC, hp]
  have h10 : (plcC x).toArray.toList[10]? = some (tokV x.tok) := by
    simp [plcC, hp]
  exact ⟨cells_of_row h.row _ _ (h.at hx 9 _ h9), cells_of_row h.row _ _ (h.at hx 10 _ h10), cells_of_row h.row _ _ (h.at hx 0 _ rfl)⟩
end
set_option maxRecDepth 100000 in
theorem table_get_no (pb b room : Nat) (l : List Plc) (nn : Int) (p0 p1 p2 : Nat) (w : World) (h : TbAt w pb b l room nn) (hpf : ∀ x ∈ l, Flat Tryz.prog 65 x.p) (h0 : p0 < 256) (h1 : p1 < 256) (h2 : p2 < 256) (hl0 : 1 ≤ l.length) (hl1 : l.length ≤ 65536) (hno : (at1 l p0 p1 p2).1 = -1) :
    Calls Tryz.prog 69 #[.pointer (some ⟨pb, 0, none⟩), .agg (pfx p0 p1 p2)] w fun e w' => e = .returned (.tuple #[.agg #[.int .i64 0, .pointer none], .bool false]) ∧ Below w.heap.size w w' := by
  have hps : (Tryz.prog.info? 65).map (·.size) = some (pfx p0 p1 p2).size := pf_size
  have hC := fun (w' : World) (q : Below w.heap.size w w') => table_find pb b room l nn p0 p1 p2 w' (h.below q) hpf h0 h1 h2 hl0 hl1
  obtain ⟨sp, hsp⟩ : ∃ s, (at1 l p0 p1 p2).2 = s := ⟨_, rfl⟩
  unfold at1 at hno hsp
  rw [hno, hsp] at hC
  have HC := Lib.hid hC
  have HPS := Lib.hid hps
  clear hC hps hno hsp h hpf
  generalize pfx p0 p1 p2 = p at *
  go_enter Tryz.func69, Tryz.ntmps69
  go_upto_region 1 with ((with_reducible refine arm_box 3 1 65 p ?_ ?_); rfl; intro w1 HB HX HS)
  have hb1 : Below w1.heap.size w1 (w1.alloc (.cells #[.int .i64 0, .pointer none] 199)) := (Below.refl _ _).alloc (Nat.le_refl _) _
  have hx1 := Go.heap_alloc_new w1 (.cells #[.int .i64 0, .pointer none] 199)
  have B1 := Lib.hid (HB.out.trans (hb1.mono HB.out.size))
  have X1 := Lib.hid hx1
  have P1 := Lib.hid (keep_block hb1 HX.out)
  clear hb1 hx1
  generalize w1.alloc (.cells #[.int .i64 0, .pointer none] 199) = w2 at *
  have hle := HB.out.size
  generalize w1.heap.size = rb at *
  have hld := box_load (t := 65) P1.out _ Tryz.underlying65 rfl HPS.out
  go_wp2_with ((with_reducible refine arm_load 11 3 65 _ _ hld ?_ ?_); rfl)
  refine (HC.out w2 B1.out).mono ?_
  rintro e w3 ⟨rfl, hb⟩
  have B3 := Lib.hid (B1.out.trans (hb.mono B1.out.size))
  have X3 := Lib.hid (keep_block hb X1.out)
  clear hb hld X1 P1 B1 HX
  have hb4 : Below w3.heap.size w3 (w3.alloc (.cells #[.int .i64 0, .pointer none] 199)) := (Below.refl _ _).alloc (Nat.le_refl _) _
  have X4 := keep_block hb4 X3.out
  have B4 := B3.out.trans (hb4.mono B3.out.size)
  have k0 := cells_of_row X4 0 _ rfl
  have k1 := cells_of_row X4 1 _ rfl
  have f0 := frozen_of_row _ _ 0 _ _ X4
  have f1 := frozen_of_row _ _ 1 _ _ X4
  have HX5 := Lib.hid (box2 X4 (.int .i64 0) (.pointer none))
  have B5 := Lib.hid ((B4.setCell (p := ⟨rb, 0, none⟩) hle (.int .i64 0)).setCell (p := ⟨rb, 1, none⟩) hle (.pointer none))
  clear hb4 X4 B4
  go_wp2
  refine bodyPost_ret (results_row_tmp rfl _ _ _ _ _ _ _ rfl HX5.out Tryz.underlying199 rfl rfl) rfl ?_
  exact ⟨rfl, B5.out⟩
set_option maxRecDepth 100000 in
theorem table_get_yes (pb b room : Nat) (l : List Plc) (nn : Int) (p0 p1 p2 i : Nat) (x : Plc) (w : World) (h : TbAt w pb b l room nn) (hpf : ∀ x ∈ l, Flat Tryz.prog 65 x.p) (h0 : p0 < 256) (h1 : p1 < 256) (h2 : p2 < 256) (hl0 : 1 ≤ l.length) (hl1 : l.length ≤ 65536) (hat : (at1 l p0 p1 p2).1 = (i : Int)) (hx : l[i]? = some x) :
    Calls Tryz.prog 69 #[.pointer (some ⟨pb, 0, none⟩), .agg (pfx p0 p1 p2)] w fun e w' => e = .returned (.tuple #[.agg #[.int .i64 x.til, tokV x.tok], .bool true]) ∧ Below w.heap.size w w' := by
  have hps : (Tryz.prog.info? 65).map (·.size) = some (pfx p0 p1 p2).size := pf_size
  have hC := fun (w' : World) (q : Below w.heap.size w w') => table_find pb b room l nn p0 p1 p2 w' (h.below q) hpf h0 h1 h2 hl0 hl1
  obtain ⟨sp, hsp⟩ : ∃ s, (at1 l p0 p1 p2).2 = s := ⟨_, rfl⟩
  unfold at1 at hat hsp
  rw [hat, hsp] at hC
  have hil : i < l.length := (List.getElem?_eq_some_iff.1 hx).1
  have hT : ∀ w', Below w.heap.size w w' → w'.cell? ⟨pb, 0, none⟩ = some (.slice (some ⟨b, 0, none⟩) l.length l.length) ∧ w'.cell? ⟨b, i * 11 + 9, none⟩ = some (.int .i64 x.til) ∧ w'.cell? ⟨b, i * 11 + 10, none⟩ = some (tokV x.tok) := fun w' q => ⟨(h.below q).cells.1, ((h.below q).entry hx).1, ((h.below q).entry hx).2.1⟩
  have HT := Lib.hid hT
  have HC := Lib.hid hC
  have HPS := Lib.hid hps
  clear hC hps hat hsp h hpf hx hT
  generalize pfx p0 p1 p2 = p at *
  generalize x.til = til at *
  obtain ⟨tk, htk⟩ : ∃ o, tokV x.tok = .pointer o := ⟨_, rfl⟩
  rw [htk] at HT ⊢
  clear htk
  obtain ⟨n, hn⟩ : ∃ n, l.length = n := ⟨_, rfl⟩
  rw [hn] at HT hil hl1 hl0
  clear hn
  have hiI : (i : Int) < (n : Int) := by omega
  go_enter Tryz.func69, Tryz.ntmps69
  go_upto_region 1 with ((with_reducible refine arm_box 3 1 65 p ?_ ?_); rfl; intro w1 HB HX HS)
  have hb1 : Below w1.heap.size w1 (w1.alloc (.cells #[.int .i64 0, .pointer none] 199)) := (Below.refl _ _).alloc (Nat.le_refl _) _
  have hx1 := Go.heap_alloc_new w1 (.cells #[.int .i64 0, .pointer none] 199)
  have B1 := Lib.hid (HB.out.trans (hb1.mono HB.out.size))
  have X1 := Lib.hid hx1
  have P1 := Lib.hid (keep_block hb1 HX.out)
  clear hb1 hx1
  generalize w1.alloc (.cells #[.int .i64 0, .pointer none] 199) = w2 at *
  have hle := HB.out.size
  generalize w1.heap.size = rb at *
  have hld := box_load (t := 65) P1.out _ Tryz.underlying65 rfl HPS.out
  go_wp2_with ((with_reducible refine arm_load 11 3 65 _ _ hld ?_ ?_); rfl)
  refine (HC.out w2 B1.out).mono ?_
  rintro e w3 ⟨rfl, hb⟩
  have B3 := Lib.hid (B1.out.trans (hb.mono B1.out.size))
  have X3 := keep_block hb X1.out
  obtain ⟨t0, t1, t2⟩ := HT.out w3 B3.out
  have t2' : w3.cell? ⟨b, i * 11 + 9 + 1, none⟩ = some (.pointer tk) := t2
  have k0 := cells_of_row X3 0 _ rfl
  have k1 := cells_of_row X3 1 _ rfl
  have f0 := frozen_of_row _ _ 0 _ _ X3
  have f1 := frozen_of_row _ _ 1 _ _ X3
  have HX5 := Lib.hid (box2 X3 (.int .i64 til) (.pointer tk))
  have B5 := Lib.hid ((B3.out.setCell (p := ⟨rb, 0, none⟩) hle (.int .i64 til)).setCell (p := ⟨rb, 1, none⟩) hle (.pointer tk))
  clear hb hld X1 P1 B1 HX X3
  go_wp2
  refine bodyPost_ret (results_row_tmp rfl _ _ _ _ _ _ _ rfl HX5.out Tryz.underlying199 rfl rfl) rfl ?_
  exact ⟨rfl, B5.out⟩
theorem box_store_mid {t : TypeId} {w : World} {b o : Nat} {C x : Array Value} {t' : TypeId} (h : w.heap[b]? = some (.cells C t' (0, 0))) (hi : (Tryz.prog.info? t).map (·.size) = some x.size) (h1 : x.all (·.oneCell') = true) (hC : o + x.size ≤ C.size) : (Instr.storeAt t (.pointer (some ⟨b, o, none⟩)) (.agg x)).run Tryz.prog w = .ok () (w.setCells b o x.toList) :=
  run_storeAt_mid (P := Tryz.prog) w b o t x (there_of_block h hC) hi h1
theorem plcC_all {p : Array Value} (st til : Int) (tok : Option Nat) (h : p.all (·.oneCell') = true) : (plcC ⟨st, p, til, tok⟩).toArray.all (·.oneCell') = true := by
  simp [plcC, Value.oneCell', tokV]
  intro i hi
  exact Array.all_eq_true.1 h i hi
section
variable {w : World} {pb b room : Nat} {l : List Plc} {nn : Int}
theorem TbAt.ne (h : TbAt w pb b l room nn) : pb ≠ b := ne_ty h.ptr h.row (by decide)
theorem TbAt.size (h : TbAt w pb b l room nn) : (l.map plcC).flatten.toArray.size = l.length * 11 := by
  rw [List.size_toArray, flat_length 11 _ (plcC_len h.pre), List.length_map]
/-- A place is written. -/
theorem TbAt.setPlace (h : TbAt w pb b l room nn) {i : Nat} (hi : i < l.length) (y : Plc) (hy : y.p.size = 8 ∧ y.p.all (·.oneCell') = true) : TbAt (w.setCells b (i * 11) (plcC y)) pb b (l.set i y) room nn := by
  have hyl : (plcC y).length = 11 := by simp [plcC, hy.1]
  refine ⟨?_, ?_, by rw [List.length_set]; exact h.len, fun x hx => ?_⟩
  · rw [heap_setCells_other _ _ _ _ _ h.ne, List.length_set]
    exact h.ptr
  · have hb := block_setCells 274 (plcC y) (i * 11) w b _ h.row (by rw [hyl, h.size]; omega)
    rw [hb]
    have e : (l.set i y).map plcC = (l.map plcC).set i (plcC y) := by rw [List.map_set]
    rw [e, flat_set _ (plcC_len h.pre) i (plcC y) (by simpa using hi) hyl]
  · rcases List.mem_or_eq_of_mem_set hx with hx | rfl
    · exact h.pre x hx
    · exact hy
theorem TbAt.setN (h : TbAt w pb b l room nn) (m : Int) : TbAt (w.setCell ⟨pb, 2, none⟩ (.int .i64 m)) pb b l room m :=
  ⟨heap_setCell_same _ _ 2 _ _ (.int .i64 m) h.ptr, (heap_setCell_other _ _ _ _ (fun e => h.ne e.symm)).trans h.row, h.len, h.pre⟩
theorem TbAt.drew (h : TbAt w pb b l room nn) : TbAt w.drew pb b l room nn := ⟨h.ptr, h.row, h.len, h.pre⟩
end
end Go.Proofs.YtpanmfdbdgecaaaGreat.C

namespace Go.Proofs.YtpanmfdbdgecaaaGreat.C
open Go.RowKit
set_option linter.unusedVariables false
theorem pfx_ok (a b c : Nat) : (pfx a b c).size = 8 ∧ (pfx a b c).all (·.oneCell') = true := ⟨rfl, by kernel_rfl⟩
theorem ent_size : (Tryz.prog.info? 199).map (·.size) = some 2 := by kernel_rfl
end Go.Proofs.YtpanmfdbdgecaaaGreat.C
