/- The box's table: Del of the last one. · The box: who is over goes. · The box: In, All. -/
import Derived.Test.YtpanmfdbdgecaaaGreatK13
namespace Go.Proofs.YtpanmfdbdgecaaaGreat.C
open Go.RowKit
set_option linter.unusedVariables false
theorem zeroCells_flat (Z : Array Value) (m n : Nat) (hZ : Z.size = m) (hm : 0 < m) : (Builtin.zeroCells Z n).toList = (List.replicate n Z.toList).flatten := by
  apply List.ext_getElem?
  intro i
  simp only [Builtin.zeroCells, Array.toList_map, Array.toList_range, List.getElem?_map]
  by_cases hi : i < n * m
  · have h1 : i / m < n := (Nat.div_lt_iff_lt_mul hm).2 hi
    have hf := flat_at (List.replicate n Z.toList) (m := m) (fun c hc => by obtain ⟨_, rfl⟩ := List.mem_replicate.1 hc; simpa using hZ) (i / m) (i % m) Z.toList (by rw [List.getElem?_replicate, if_pos h1]) (Nat.mod_lt _ hm)
    have e : i / m * m + i % m = i := Nat.div_add_mod' i m
    rw [e] at hf
    rw [hf, hZ, List.getElem?_range hi]
    have hk := Nat.mod_lt i hm
    simp [hZ, getElem!_pos, hk]
  · rw [List.getElem?_eq_none (by simp [hZ]; omega), List.getElem?_eq_none]
    · rfl
    · rw [flat_length m _ (fun c hc => by obtain ⟨_, rfl⟩ := List.mem_replicate.1 hc; simpa using hZ), List.length_replicate]
      omega
section
variable {P : Program} {ops : Array Oper} {rest : List Oper} {a : Act} {w : World} {Q : Exit → Act → World → Prop} {ty : TypeId} {pos : String} {after : Array Edge}
theorem arm_clear (s : Nat) (t : TypeId) (v r : Value) (w' : World) (hrun : (Builtin.clear_ #[t] ty #[v]).run P w = .ok r w') (hx : a.tmps.getD s undef = v) (h : wpList P ops Q rest (a.put none r) w') :
    wpList P ops Q (⟨none, .call { callee := .builtin .clear, args := #[.tmp s], argTypes := #[t] }, ty, pos, after, none⟩ :: rest) a w :=
  wpList_plain rfl fun _ hK => by
    have hx' : a.eval (.tmp s) = v := hx
    unfold Oper.wp
    simp [execOp, resolve, invoke, builtin, hx', hrun, Result.andThen]
    exact hK _ _ h
end
section
variable {w : World} {pb b room : Nat} {l : List Plc} {nn : Int}
theorem TbAt.clear (h : TbAt w pb b l room nn) (hl : 1 ≤ l.length) (c : Nat) (ty : TypeId) : (Builtin.clear_ #[275] ty #[.slice (some ⟨b, 0, none⟩) l.length c]).run Tryz.prog w = .ok (.tuple #[]) (w.setCells b 0 (List.replicate l.length (plcC plc0)).flatten) := by
  have hz := zeroCells_flat (plcC plc0).toArray 11 l.length rfl (by omega)
  have hv : (zeroValue 274).run Tryz.prog w = .ok (.agg (plcC plc0).toArray) w := by
    have := tpl_zero
    cases hq : Tryz.prog.info? 274 with
    | none => simp [hq] at this
    | some i =>
      simp [hq] at this
      simp [zeroValue, typeInfo, hq, this.1, go_sem]
  have hlen : (List.replicate l.length (plcC plc0)).flatten.length = l.length * 11 := by
    rw [flat_length 11 _ (fun c hc => by obtain ⟨_, rfl⟩ := List.mem_replicate.1 hc; rfl), List.length_replicate]
  have hth := there_of_block (o := 0) (n := l.length * 11) h.row (by rw [h.size]; omega)
  have hst := run_storeCells_cells (P := Tryz.prog) b 0 (List.replicate l.length (plcC plc0)).flatten 0 w (fun j hj => (hth j (by rwa [hlen] at hj)).1) (fun j hj => (hth j (by rwa [hlen] at hj)).2) (fun v hv => by
    obtain ⟨c, hc, hv⟩ := List.mem_flatten.1 hv
    obtain ⟨_, rfl⟩ := List.mem_replicate.1 hc
    have : (plcC plc0).all (·.oneCell') = true := by kernel_rfl
    exact List.all_eq_true.1 this v hv)
  simp only [Nat.add_zero] at hst
  rw [List.toList_toArray] at hz
  obtain ⟨m, hm⟩ : ∃ m, l.length = m + 1 := ⟨l.length - 1, by omega⟩
  rw [hm] at hz hst ⊢
  rw [List.toList_toArray] at hz
  obtain ⟨Zs, hZs⟩ : ∃ Zs, Builtin.zeroCells (plcC plc0).toArray (m + 1) = Zs := ⟨_, rfl⟩
  rw [hZs] at hz
  rw [← hz] at hst ⊢
  generalize hq : (plcC plc0).toArray = PA at *
  simp [Builtin.clear_, run_underlying Tryz.underlying275, hv, Value.cells, hZs, hst]
end
theorem TbAt.cleared {w : World} {pb b room : Nat} {l : List Plc} {nn : Int} (h : TbAt w pb b l room nn) : TbAt (w.setCells b 0 (List.replicate l.length (plcC plc0)).flatten) pb b (List.replicate (2 * room) plc0) room nn := by
  have hlen : (List.replicate l.length (plcC plc0)).flatten.length = l.length * 11 := by
    rw [flat_length 11 _ (fun c hc => by obtain ⟨_, rfl⟩ := List.mem_replicate.1 hc; rfl), List.length_replicate]
  refine ⟨?_, ?_, by rw [List.length_replicate], fun x hx => by obtain ⟨_, rfl⟩ := List.mem_replicate.1 hx; exact ⟨rfl, by kernel_rfl⟩⟩
  · rw [heap_setCells_other _ _ _ _ _ h.ne, List.length_replicate, ← h.len]
    exact h.ptr
  · have hb := block_setCells 274 (List.replicate l.length (plcC plc0)).flatten 0 w b _ h.row (by rw [hlen, h.size]; omega)
    rw [hb, List.map_replicate, ← h.len]
    congr 3
    unfold splice
    rw [List.take_zero, List.nil_append, List.drop_eq_nil_of_le (by rw [hlen, Nat.zero_add, ← h.size, List.size_toArray, List.toList_toArray]; exact Nat.le_refl _), List.append_nil]
theorem build_left (w : World) : (Instr.build 274 #[(0, .int .i64 2)]).run Tryz.prog w = .ok (.agg (plcC ⟨2, QZ, 0, none⟩).toArray) w := run_build w 274 _ _ (by kernel_rfl)
set_option maxRecDepth 100000 in
set_option maxHeartbeats 1000000 in
/-- The only one goes: all places are free again. -/
theorem table_del (pb b room : Nat) (l : List Plc) (p0 p1 p2 i : Nat) (w : World) (h : TbAt w pb b l room 1) (hpf : ∀ x ∈ l, Flat Tryz.prog 65 x.p) (h0 : p0 < 256) (h1 : p1 < 256) (h2 : p2 < 256) (hl0 : 1 ≤ l.length) (hl1 : l.length ≤ 65536) (hat : (at1 l p0 p1 p2).1 = (i : Int)) (hi : i < l.length) :
    Calls Tryz.prog 128 #[.pointer (some ⟨pb, 0, none⟩), .agg (pfx p0 p1 p2)] w fun e w' => e = .returned (.bool true) ∧ TbAt w' pb b (List.replicate (2 * room) plc0) room 0 ∧ Two pb b w w' := by
  have hps : (Tryz.prog.info? 65).map (·.size) = some (pfx p0 p1 p2).size := pf_size
  have hC := fun (w' : World) (q : Below w.heap.size w w') => table_find pb b room l 1 p0 p1 p2 w' (h.below q) hpf h0 h1 h2 hl0 hl1
  obtain ⟨sp, hsp⟩ : ∃ s, (at1 l p0 p1 p2).2 = s := ⟨_, rfl⟩
  unfold at1 at hat hsp
  rw [hat, hsp] at hC
  have HC := Lib.hid hC
  have HPS := Lib.hid hps
  have HH := Lib.hid h
  have hl2 := Lib.hid h.len
  clear hC hps hat hsp h hpf
  generalize pfx p0 p1 p2 = p at *
  obtain ⟨n, hn⟩ : ∃ n, l.length = n := ⟨_, rfl⟩
  have HN := Lib.hid hn
  rw [hn] at hi hl0 hl1
  clear hn
  have hiI : (i : Int) < (n : Int) := by omega
  obtain ⟨pl, hpl⟩ : ∃ x, (⟨2, QZ, 0, none⟩ : Plc) = x := ⟨_, rfl⟩
  have hpp : pl.p.size = 8 ∧ pl.p.all (·.oneCell') = true := by rw [← hpl]; exact ⟨rfl, by kernel_rfl⟩
  have hpz : (plcC pl).toArray.size = 11 := by rw [← hpl]; rfl
  have hpa : (plcC pl).toArray.all (·.oneCell') = true := by rw [← hpl]; kernel_rfl
  have hbl := build_left
  rw [hpl] at hbl
  have HPP := Lib.hid hpp
  have HPZ := Lib.hid hpz
  have HPA := Lib.hid hpa
  have HBL := Lib.hid hbl
  clear hpl hpp hpz hpa hbl
  go_enter Tryz.func128, Tryz.ntmps128
  go_upto_region 1 with ((with_reducible refine arm_box 3 1 65 p ?_ ?_); rfl; intro w1 HB HX HS)
  have hld := box_load (t := 65) HX.out _ Tryz.underlying65 rfl HPS.out
  go_wp2_with ((with_reducible refine arm_load 9 3 65 _ _ hld ?_ ?_); rfl)
  refine (HC.out w1 HB.out).mono ?_
  rintro e w3 ⟨rfl, hb⟩
  have B3 := Lib.hid (HB.out.trans (hb.mono HB.out.size))
  have hT3 := HH.out.below B3.out
  have hT0 : Two pb b w w3 := two_ofB B3.out
  clear hb hld
  have k0 := hT3.cells.1
  rw [HN.out] at k0
  have hst := box_store_mid (t := 274) (o := i * 11) hT3.row (by rw [HPZ.out]; exact tpl_size) HPA.out (by rw [HPZ.out, hT3.size, HN.out]; omega)
  have h4 := hT3.setPlace (i := i) (by rw [HN.out]; exact hi) pl HPP.out
  have t4 := Two.setCells (g := pb) (h := b) (b := b) (.inr rfl) (plcC pl) (i * 11) hT0
  rw [List.toList_toArray] at hst
  have H4 := Lib.hid h4
  have T4 := Lib.hid t4
  have hbl := HBL.out w3
  clear h4 t4 hT3 hT0
  generalize w3.setCells b (i * 11) (plcC pl) = w4 at *
  go_upto_region 5 with (first
    | ((with_reducible refine arm_build 20 274 _ #[(0, .int .i64 2)] (.agg (plcC pl).toArray) hbl ?_ ?_); simp [Act.eval])
    | ((with_reducible refine arm_store 21 20 274 _ _ _ hst ?_ ?_ ?_); rfl; rfl))
  clear hst hbl k0
  obtain ⟨_, _, e2, ff⟩ := H4.out.cells
  have f2 := ff 2
  have h5 := H4.out.setN 0
  have T5 := Lib.hid (T4.out.setCell (x := ⟨pb, 2, none⟩) (.inl rfl) (.int .i64 0))
  have H5 := Lib.hid h5
  clear ff h5
  go_upto_region 6 with (fail)
  have hln : (l.set i pl).length = n := by rw [List.length_set]; exact HN.out
  clear e2 f2
  generalize w4.setCell ⟨pb, 2, none⟩ (.int .i64 0) = w5 at *
  generalize l.set i pl = l5 at *
  obtain ⟨e0, _, e2, _⟩ := H5.out.cells
  have hcl := H5.out.clear (by omega) l5.length 275
  have H6 := Lib.hid H5.out.cleared
  have T6 := Lib.hid (Two.setCells (g := pb) (h := b) (b := b) (.inr rfl) (List.replicate l5.length (plcC plc0)).flatten 0 T5.out)
  rw [hln] at e0 H6 T6
  have hcl2 : ∀ ty, (Builtin.clear_ #[275] ty #[.slice (some ⟨b, 0, none⟩) n n]).run Tryz.prog w5 = .ok (.tuple #[]) (w5.setCells b 0 (List.replicate n (plcC plc0)).flatten) := fun ty => by
    have := H5.out.clear (by omega) l5.length ty
    rw [hln] at this
    exact this
  have HCL := Lib.hid hcl2
  clear hcl hcl2
  generalize w5.setCells b 0 (List.replicate n (plcC plc0)).flatten = w6 at *
  go_wp2_with ((with_reducible refine arm_clear 37 275 _ _ _ (HCL.out _) ?_ ?_); rfl)
  go_ret
  exact ⟨rfl, H6.out, T6.out⟩
end Go.Proofs.YtpanmfdbdgecaaaGreat.C

namespace Go.Proofs.YtpanmfdbdgecaaaGreat.C
open Go.RowKit
set_option linter.unusedVariables false
/-- What a prefix has in the table. -/
structure Gets (l : List Plc) (p0 p1 p2 : Nat) (til : Int) (tk : Option Addr) (ok : Bool) : Prop where
  fl : ∀ x ∈ l, Flat Tryz.prog 65 x.p
  b0 : p0 < 256 ∧ p1 < 256 ∧ p2 < 256
  len : 1 ≤ l.length ∧ l.length ≤ 65536
  is : (ok = false ∧ (at1 l p0 p1 p2).1 = -1 ∧ til = 0 ∧ tk = none) ∨ (ok = true ∧ ∃ (i : Nat) (x : Plc), (at1 l p0 p1 p2).1 = (i : Int) ∧ l[i]? = some x ∧ til = x.til ∧ tokV x.tok = .pointer tk)
theorem table_get {pb b room : Nat} {l : List Plc} {nn : Int} {p0 p1 p2 : Nat} {til : Int} {tk : Option Addr} {ok : Bool} (hg : Gets l p0 p1 p2 til tk ok) (w : World) (h : TbAt w pb b l room nn) :
    Calls Tryz.prog 69 #[.pointer (some ⟨pb, 0, none⟩), .agg (pfx p0 p1 p2)] w fun e w' => e = .returned (.tuple #[.agg #[.int .i64 til, .pointer tk], .bool ok]) ∧ Below w.heap.size w w' := by
  rcases hg.is with ⟨rfl, h1, rfl, rfl⟩ | ⟨rfl, i, x, h1, h2, rfl, h4⟩
  · exact table_get_no pb b room l nn p0 p1 p2 w h hg.fl hg.b0.1 hg.b0.2.1 hg.b0.2.2 hg.len.1 hg.len.2 h1
  · have := table_get_yes pb b room l nn p0 p1 p2 i x w h hg.fl hg.b0.1 hg.b0.2.1 hg.b0.2.2 hg.len.1 hg.len.2 h1 h2
    rw [h4] at this
    exact this
theorem BxAt.cells {w : World} {xb pb b room : Nat} {l : List Plc} {n term rate burst : Int} (h : BxAt w xb pb b l room n term rate burst) : w.cell? ⟨xb, 0, none⟩ = some (.pointer (some ⟨pb, 0, none⟩)) ∧ w.cell? ⟨xb, 1, none⟩ = some (.int .i64 term) ∧ w.cell? ⟨xb, 2, none⟩ = some (.int .i64 rate) ∧ w.cell? ⟨xb, 3, none⟩ = some (.int .i64 burst) := by
  rw [cell_of_row _ _ _ _ _ _ h.ptr, cell_of_row _ _ _ _ _ _ h.ptr, cell_of_row _ _ _ _ _ _ h.ptr, cell_of_row _ _ _ _ _ _ h.ptr]
  exact ⟨rfl, rfl, rfl, rfl⟩
theorem BxAt.ne {w : World} {xb pb b room : Nat} {l : List Plc} {n term rate burst : Int} (h : BxAt w xb pb b l room n term rate burst) : xb ≠ pb ∧ xb ≠ b := ⟨ne_ty h.ptr h.tb.ptr (by decide), ne_ty h.ptr h.tb.row (by decide)⟩
set_option maxRecDepth 100000 in
/-- Nobody is in it. -/
theorem sweep_none (xb pb b room : Nat) (l : List Plc) (nn term rate burst now : Int) (w : World) (h : BxAt w xb pb b l room nn term rate burst) (hl1 : l.length ≤ 65536) (hno : tkn l = []) :
    Calls Tryz.prog 68 #[.pointer (some ⟨xb, 0, none⟩), .int .i64 now] w fun e w' => e = .returned (.bool true) ∧ BxAt w' xb pb b l room nn term rate burst ∧ Below w.heap.size w w' := by
  have CA := Lib.hid (table_all pb b room l nn w h.tb hl1 (by rw [hno]; simp))
  rw [hno] at CA
  have k0 := h.cells.1
  have HH := Lib.hid h
  clear h
  go_enter Tryz.func68, Tryz.ntmps68
  go_wp2_with fail
  refine CA.out.mono ?_
  rintro e w1 ⟨u, rfl, ho, hb⟩
  obtain ⟨A, c, rfl⟩ := OW.slice ho
  have HB := Lib.hid hb
  clear ho hb CA
  go_wp2_with fail
  go_loopw [17] (fun t wr => t = .int .i64 0 ∧ w1 = wr) (fun _ _ => 0)
  case atStart => exact ⟨rfl, rfl⟩
  case round =>
    obtain ⟨rfl, rfl⟩ := hrel
    go_wp2
    go_ret
    exact ⟨rfl, HH.out.below HB.out, HB.out⟩
def EZ : Array Value := #[.int .i64 0, .pointer none]
theorem ez_zero : (Tryz.prog.info? 199).map (fun i => (i.zero, i.size)) = some (some (.agg EZ), 2) := by kernel_rfl
set_option maxRecDepth 100000 in
set_option maxHeartbeats 1000000 in
/-- Who is in it stays up to the end of its term. -/
theorem sweep_stay (xb pb b room : Nat) (l : List Plc) (nn term rate burst now til : Int) (tk : Option Addr) (p0 p1 p2 : Nat) (w : World) (h : BxAt w xb pb b l room nn term rate burst) (hg : Gets l p0 p1 p2 til tk true) (hone : tkn l = [pfx p0 p1 p2]) (hn0 : 0 ≤ now) (hlt : now < til) :
    Calls Tryz.prog 68 #[.pointer (some ⟨xb, 0, none⟩), .int .i64 now] w fun e w' => e = .returned (.bool true) ∧ BxAt w' xb pb b l room nn term rate burst ∧ Two pb b w w' := by
  have CA := Lib.hid (table_all pb b room l nn w h.tb hg.len.2 (by rw [hone]; simp))
  rw [hone] at CA
  have k0 := h.cells.1
  have HH := Lib.hid h
  have hcg := fun (w' : World) (q : TbAt w' pb b l room nn) => table_get hg w' q
  have HCG := Lib.hid hcg
  have hpo := pfx_ok p0 p1 p2
  have hps : (Tryz.prog.info? 65).map (·.size) = some (pfx p0 p1 p2).size := pf_size
  have HPS := Lib.hid hps
  have HPO := Lib.hid hpo
  clear h hg hcg hpo hps
  generalize pfx p0 p1 p2 = p at *
  have hmx : (if now < 0 then (0 : Int) else now) = now := if_neg (by omega)
  have hmx2 : (if (0 : Int) < now then now else 0) = now := by split <;> omega
  have hpz := pfz_zero
  obtain ⟨PZ', hPZ⟩ : ∃ Z, PfZ = Z := ⟨_, rfl⟩
  have hpzs : PZ'.size = 8 := by rw [← hPZ]; rfl
  rw [hPZ] at hpz
  have HPZ := Lib.hid hpz
  have HPZS := Lib.hid hpzs
  clear hpz hpzs hPZ
  go_enter Tryz.func68, Tryz.ntmps68
  go_wp2_with fail
  refine CA.out.mono ?_
  rintro e w1 ⟨u, rfl, ho, hb⟩
  obtain ⟨A, c, rfl⟩ := OW.slice ho
  obtain ⟨g, rfl⟩ : ∃ g, A = some ⟨g, 0, none⟩ := by
    rcases ho.2 with ⟨_, h1⟩ | ⟨g2, cap, cur, hv, _⟩
    · exact absurd h1 (by simp)
    · injection hv with h4 h5 h6
      exact ⟨g2, h4⟩
  have hrow : ∀ (j : Nat) (v : Value), p.toList[j]? = some v → w1.cell? ⟨g, j, none⟩ = some v := fun j v hv => by
    have := ho.cells (g := g) rfl j v (by simpa [pfL] using hv)
    rwa [OW.addr_off, Nat.zero_add] at this
  have HROW := Lib.hid hrow
  have HB := Lib.hid hb
  clear ho hb CA k0 hrow
  go_wp2_with fail
  go_loopw [17] (fun t wr => ∃ k : Nat, k ≤ 1 ∧ t = .int .i64 (k : Nat) ∧ (k = 0 → Below w1.heap.size w1 wr) ∧ (k = 1 → BxAt wr xb pb b l room nn term rate burst ∧ Two pb b w wr)) (fun t _ => 1 - (intOf t).toNat)
  case atStart => exact ⟨0, by omega, rfl, fun _ => Below.refl _ _, fun h => absurd h (by omega)⟩
  case round =>
    obtain ⟨k, hk, rfl, hB0, hB1⟩ := hrel
    have hs1 := HB.out.size
    rcases (show k = 0 ∨ k = 1 by omega) with rfl | rfl
    · have HB2 := Lib.hid (hB0 rfl)
      clear hB0 hB1
      have hgb : g < w1.heap.size := by
        have := HROW.out 0 (p[0]'(by rw [HPO.out.1]; omega)) (by simp)
        exact World.block_lt_of_cell? _ _ this
      have hld : (Instr.loadAt 65 (.pointer (some ⟨g, 0, none⟩))).run Tryz.prog wr = .ok (.agg p) wr := by
        have := run_loadAt_mid (P := Tryz.prog) wr g 0 65 p.toList _ (fun j v hv => by rw [Nat.zero_add, World.cell?_of_block (HB2.out.block g hgb)]; exact HROW.out j v hv) Tryz.underlying65 rfl (by rw [HPS.out, Array.length_toList])
        simpa using this
      have hs2 := HB2.out.size
      go_upto_region 6 with (first
        | ((with_reducible refine arm_load 20 19 65 _ _ hld ?_ ?_); rfl)
        | ((with_reducible refine arm_alloc 6 65 PZ' 8 HPZ.out ?_); intro w5 HB5 HX5 HS5; have hst := box_store (t := 65) (x := p) HX5.out HPS.out HPO.out.2 (HPZS.out.trans HPO.out.1.symm); have hbx := Lib.hid (box_whole (cs := p) HX5.out (HPO.out.1.trans HPZS.out.symm)); have hf5 := Lib.hid (below_setCells (b := wr.heap.size) (Nat.le_refl _) p.toList 0 HB5.out))
        | ((with_reducible refine arm_store 6 20 65 _ _ _ hst ?_ ?_ ?_); rfl; rfl))
      have B6 := Lib.hid (HB.out.trans ((HB2.out.trans (hf5.out.mono hs2)).mono hs1))
      have P6 := Lib.hid hbx.out
      clear hst hld hbx hf5 HX5 HB5 HS5
      generalize World.setCells w5 _ 0 p.toList = w6 at *
      generalize wr.heap.size = xpb at *
      have HX6 := Lib.hid (HH.out.below B6.out)
      have HL : Hid (∀ w', Below w6.heap.size w6 w' → w'.cell? ⟨xb, 0, none⟩ = some (.pointer (some ⟨pb, 0, none⟩)) ∧ (Instr.loadAt 65 (.pointer (some ⟨xpb, 0, none⟩))).run Tryz.prog w' = .ok (.agg p) w') := Lib.hid fun w' q => ⟨(HX6.out.below q).cells.1, box_load (t := 65) (keep_block q P6.out) _ Tryz.underlying65 rfl HPS.out⟩
      have CG : Hid (∀ w', Below w6.heap.size w6 w' → Calls Tryz.prog 69 #[.pointer (some ⟨pb, 0, none⟩), .agg p] w' fun e w'' => e = .returned (.tuple #[.agg #[.int .i64 til, .pointer tk], .bool true]) ∧ Below w'.heap.size w' w'') := Lib.hid fun w' q => HCG.out w' (HX6.out.below q).tb
      go_wp2_with fail
      refine wp_region_held_drew (S := Below w6.heap.size w6) (by kernel_rfl) (Below.refl _ _).drew (fun hHeld => ?_)
      refine wpAnyH_take (i := 0) (oi := ⟨some 22, _, _, _, _, _⟩) (v := ?_) rfl (by kernel_rfl) (by kernel_rfl) (by kernel_rfl) (fun _ _ _ h => h) (Or.inl ⟨by rfl, ?_⟩) hHeld ?_
      rotate_left
      · intro w hSw
        go_simp
        try with_reducible rfl
      try simp only [Act.put, List.setIfInBounds_toArray, List.set_cons_zero, List.set_cons_succ]
      refine wpAnyH_take (i := 1) (oi := ⟨some 23, _, _, _, _, _⟩) (v := ?_) rfl (by kernel_rfl) (by kernel_rfl) (by kernel_rfl) (fun _ _ _ h => h) (Or.inl ⟨by rfl, ?_⟩) hHeld ?_
      rotate_left
      · intro w hSw
        go_simp
        try with_reducible rfl
      try simp only [Act.put, List.setIfInBounds_toArray, List.set_cons_zero, List.set_cons_succ]
      refine wpAnyH_take (i := 2) (oi := ⟨some 24, _, _, _, _, _⟩) (v := ?_) rfl (by kernel_rfl) (by kernel_rfl) (by kernel_rfl) (fun _ _ _ h => h) (Or.inl ⟨by rfl, ?_⟩) hHeld ?_
      rotate_left
      · intro w hSw
        go_simp
        try with_reducible rfl
      try simp only [Act.put, List.setIfInBounds_toArray, List.set_cons_zero, List.set_cons_succ]
      refine wpAnyH_take (i := 3) (oi := ⟨some 25, _, _, _, _, _⟩) (v := ?_) rfl (by kernel_rfl) (by kernel_rfl) (by kernel_rfl) (fun _ _ _ h => h) (Or.inl ⟨by rfl, ?_⟩) hHeld ?_
      rotate_left
      · intro w hSw
        obtain ⟨k0, _⟩ := HL.out w hSw
        go_simp
        try with_reducible rfl
      try simp only [Act.put, List.setIfInBounds_toArray, List.set_cons_zero, List.set_cons_succ]
      refine wpAnyH_take (i := 4) (oi := ⟨some 26, _, _, _, _, _⟩) (v := .agg p) rfl (by kernel_rfl) (by kernel_rfl) (by kernel_rfl) (fun _ _ _ h => h) (Or.inl ⟨by rfl, fun w hSw => exec_load rfl (HL.out w hSw).2⟩) hHeld ?_
      try simp only [Act.put, List.setIfInBounds_toArray, List.set_cons_zero, List.set_cons_succ]
      refine wpAnyH_ready (rs := [5, 9]) (by kernel_rfl) (by simp) ?_
      refine AllReadyH.cons rfl (fun K hK => ?_) (AllReadyH.cons rfl (fun K hK => ?_) AllReadyH.nil)
      · skip
        go_simp
        go_wp2_with (go_at_call 69; go_must (refine (CG.out _ hHeld).mono ?_; rintro e w5 ⟨rfl, hB⟩))
        refine hK.out _ _ (hHeld.trans (hB.mono hHeld.size)) (fun hHeld => ?_)
        clear hK K
        refine wpAnyH_take (i := 6) (oi := ⟨some 21, _, _, _, _, _⟩) (v := ?_) rfl (by kernel_rfl) (by kernel_rfl) (by kernel_rfl) (fun _ _ _ h => h) (Or.inl ⟨by rfl, ?_⟩) hHeld ?_
        rotate_left
        · intro w hSw
          go_simp
          try with_reducible rfl
        try simp only [Act.put, List.setIfInBounds_toArray, List.set_cons_zero, List.set_cons_succ]
        refine wpAnyH_take (i := 7) (oi := ⟨some 28, _, _, _, _, _⟩) (v := ?_) rfl (by kernel_rfl) (by kernel_rfl) (by kernel_rfl) (fun _ _ _ h => h) (Or.inl ⟨by rfl, ?_⟩) hHeld ?_
        rotate_left
        · intro w hSw
          go_simp
          try with_reducible rfl
        try simp only [Act.put, List.setIfInBounds_toArray, List.set_cons_zero, List.set_cons_succ]
        refine wpAnyH_take (i := 8) (oi := ⟨some 29, _, _, _, _, _⟩) (v := ?_) rfl (by kernel_rfl) (by kernel_rfl) (by kernel_rfl) (fun _ _ _ h => h) (Or.inl ⟨by rfl, ?_⟩) hHeld ?_
        rotate_left
        · intro w hSw
          go_simp
          try with_reducible rfl
        try simp only [Act.put, List.setIfInBounds_toArray, List.set_cons_zero, List.set_cons_succ]
        refine wpAnyH_ready (rs := [9]) (by kernel_rfl) (by simp) ?_
        refine AllReadyH.cons rfl (fun K hK => ?_) AllReadyH.nil
        have hS9 := hHeld.size; refine step_alloc 7 199 EZ 2 ez_zero ?_; intro W9 HB9 HX9 HS9
        refine hK.out _ _ (hHeld.trans (HB9.out.mono hHeld.size)) (fun hHeld => ?_)
        clear hK K
        refine wpAnyH_ready (rs := [10]) (by kernel_rfl) (by simp) ?_
        refine AllReadyH.cons rfl (fun K hK => ?_) AllReadyH.nil
        have HBX := Lib.hid (box_whole (cs := #[.int .i64 til, .pointer tk]) HX9.out rfl); refine step_store 7 28 199 _ _ _ (box_store (x := #[.int .i64 til, .pointer tk]) HX9.out ent_size (by kernel_rfl) rfl) rfl rfl ?_
        refine hK.out _ _ (below_setCells hS9 _ _ hHeld) (fun hHeld => ?_)
        clear hK K
        refine wpAnyH_take (i := 11) (oi := ⟨some 8, _, _, _, _, _⟩) (v := ?_) rfl (by kernel_rfl) (by kernel_rfl) (by kernel_rfl) (fun _ _ _ h => h) (Or.inl ⟨by rfl, ?_⟩) hHeld ?_
        rotate_left
        · intro w hSw
          go_simp
          try with_reducible rfl
        try simp only [Act.put, List.setIfInBounds_toArray, List.set_cons_zero, List.set_cons_succ]
        refine wpAnyH_done (by kernel_rfl) ?_ _
        have HE := Lib.hid hHeld
        clear hHeld
        try simp only [Act.put, List.setIfInBounds_toArray, List.set_cons_zero, List.set_cons_succ]
        generalize World.setCells _ _ 0 (#[.int .i64 til, .pointer tk] : Array Value).toList = wE at *
        have k9 := cells_of_row HBX.out 0 _ rfl
        try have k9' : wE.cell? ⟨w6.heap.size, 0, none⟩ = some (.int .i64 til) := k9
        have hB9 := Lib.hid (B6.out.trans (HE.out.mono B6.out.size))
        have hd : ¬ til ≤ now := by omega
        go_wp2
        go_roundw
        case rel => exact ⟨1, by omega, by go_num, fun h => absurd h (by omega), fun _ => ⟨HH.out.below hB9.out, two_ofB hB9.out⟩⟩
        case measure => simp [intOf]
      · skip
        have hS9 := hHeld.size; refine step_alloc 7 199 EZ 2 ez_zero ?_; intro W9 HB9 HX9 HS9
        refine hK.out _ _ (hHeld.trans (HB9.out.mono hHeld.size)) (fun hHeld => ?_)
        clear hK K
        refine wpAnyH_ready (rs := [5]) (by kernel_rfl) (by simp) ?_
        refine AllReadyH.cons rfl (fun K hK => ?_) AllReadyH.nil
        go_simp
        go_wp2_with (go_at_call 69; go_must (refine (CG.out _ hHeld).mono ?_; rintro e w5 ⟨rfl, hB⟩))
        refine hK.out _ _ (hHeld.trans (hB.mono hHeld.size)) (fun hHeld => ?_)
        clear hK K
        have HX10 := Lib.hid (keep_block hB HX9.out)
        refine wpAnyH_take (i := 6) (oi := ⟨some 21, _, _, _, _, _⟩) (v := ?_) rfl (by kernel_rfl) (by kernel_rfl) (by kernel_rfl) (fun _ _ _ h => h) (Or.inl ⟨by rfl, ?_⟩) hHeld ?_
        rotate_left
        · intro w hSw
          go_simp
          try with_reducible rfl
        try simp only [Act.put, List.setIfInBounds_toArray, List.set_cons_zero, List.set_cons_succ]
        refine wpAnyH_take (i := 7) (oi := ⟨some 28, _, _, _, _, _⟩) (v := ?_) rfl (by kernel_rfl) (by kernel_rfl) (by kernel_rfl) (fun _ _ _ h => h) (Or.inl ⟨by rfl, ?_⟩) hHeld ?_
        rotate_left
        · intro w hSw
          go_simp
          try with_reducible rfl
        try simp only [Act.put, List.setIfInBounds_toArray, List.set_cons_zero, List.set_cons_succ]
        refine wpAnyH_take (i := 8) (oi := ⟨some 29, _, _, _, _, _⟩) (v := ?_) rfl (by kernel_rfl) (by kernel_rfl) (by kernel_rfl) (fun _ _ _ h => h) (Or.inl ⟨by rfl, ?_⟩) hHeld ?_
        rotate_left
        · intro w hSw
          go_simp
          try with_reducible rfl
        try simp only [Act.put, List.setIfInBounds_toArray, List.set_cons_zero, List.set_cons_succ]
        refine wpAnyH_ready (rs := [10]) (by kernel_rfl) (by simp) ?_
        refine AllReadyH.cons rfl (fun K hK => ?_) AllReadyH.nil
        have HBX := Lib.hid (box_whole (cs := #[.int .i64 til, .pointer tk]) HX10.out rfl); refine step_store 7 28 199 _ _ _ (box_store (x := #[.int .i64 til, .pointer tk]) HX10.out ent_size (by kernel_rfl) rfl) rfl rfl ?_
        refine hK.out _ _ (below_setCells hS9 _ _ hHeld) (fun hHeld => ?_)
        clear hK K
        refine wpAnyH_take (i := 11) (oi := ⟨some 8, _, _, _, _, _⟩) (v := ?_) rfl (by kernel_rfl) (by kernel_rfl) (by kernel_rfl) (fun _ _ _ h => h) (Or.inl ⟨by rfl, ?_⟩) hHeld ?_
        rotate_left
        · intro w hSw
          go_simp
          try with_reducible rfl
        try simp only [Act.put, List.setIfInBounds_toArray, List.set_cons_zero, List.set_cons_succ]
        refine wpAnyH_done (by kernel_rfl) ?_ _
        have HE := Lib.hid hHeld
        clear hHeld
        try simp only [Act.put, List.setIfInBounds_toArray, List.set_cons_zero, List.set_cons_succ]
        generalize World.setCells _ _ 0 (#[.int .i64 til, .pointer tk] : Array Value).toList = wE at *
        have k9 := cells_of_row HBX.out 0 _ rfl
        try have k9' : wE.cell? ⟨w6.heap.size, 0, none⟩ = some (.int .i64 til) := k9
        have hB9 := Lib.hid (B6.out.trans (HE.out.mono B6.out.size))
        have hd : ¬ til ≤ now := by omega
        go_wp2
        go_roundw
        case rel => exact ⟨1, by omega, by go_num, fun h => absurd h (by omega), fun _ => ⟨HH.out.below hB9.out, two_ofB hB9.out⟩⟩
        case measure => simp [intOf]
    · have HP := Lib.hid (hB1 rfl)
      clear hB0 hB1
      go_wp2
      go_ret
      exact ⟨rfl, HP.out⟩
set_option maxRecDepth 100000 in
set_option maxHeartbeats 1000000 in
/-- .. and goes at it. -/
theorem sweep_over (xb pb b room : Nat) (l : List Plc) (term rate burst now til : Int) (tk : Option Addr) (p0 p1 p2 : Nat) (w : World) (h : BxAt w xb pb b l room 1 term rate burst) (hg : Gets l p0 p1 p2 til tk true) (hone : tkn l = [pfx p0 p1 p2]) (hn0 : 0 ≤ now) (hlt : til ≤ now) :
    Calls Tryz.prog 68 #[.pointer (some ⟨xb, 0, none⟩), .int .i64 now] w fun e w' => e = .returned (.bool true) ∧ BxAt w' xb pb b (List.replicate (2 * room) plc0) room 0 term rate burst ∧ Two pb b w w' := by
  have CA := Lib.hid (table_all pb b room l 1 w h.tb hg.len.2 (by rw [hone]; simp))
  rw [hone] at CA
  have k0 := h.cells.1
  have HH := Lib.hid h
  have hcg := fun (w' : World) (q : TbAt w' pb b l room 1) => table_get hg w' q
  have HCG := Lib.hid hcg
  have hpo := pfx_ok p0 p1 p2
  have hps : (Tryz.prog.info? 65).map (·.size) = some (pfx p0 p1 p2).size := pf_size
  have hcd : ∀ w', TbAt w' pb b l room 1 → Calls Tryz.prog 128 #[.pointer (some ⟨pb, 0, none⟩), .agg (pfx p0 p1 p2)] w' fun e w'' => e = .returned (.bool true) ∧ TbAt w'' pb b (List.replicate (2 * room) plc0) room 0 ∧ Two pb b w' w'' := fun w' q => by
    rcases hg.is with ⟨h1, _⟩ | ⟨_, i, x, h1, h2, _, _⟩
    · cases h1
    · exact table_del pb b room l p0 p1 p2 i w' q hg.fl hg.b0.1 hg.b0.2.1 hg.b0.2.2 hg.len.1 hg.len.2 h1 (List.getElem?_eq_some_iff.1 h2).1
  have HCD := Lib.hid hcd
  clear hcd
  have HPS := Lib.hid hps
  have HPO := Lib.hid hpo
  clear h hg hcg hpo hps
  generalize pfx p0 p1 p2 = p at *
  have hmx : (if now < 0 then (0 : Int) else now) = now := if_neg (by omega)
  have hmx2 : (if (0 : Int) < now then now else 0) = now := by split <;> omega
  have hpz := pfz_zero
  obtain ⟨PZ', hPZ⟩ : ∃ Z, PfZ = Z := ⟨_, rfl⟩
  have hpzs : PZ'.size = 8 := by rw [← hPZ]; rfl
  rw [hPZ] at hpz
  have HPZ := Lib.hid hpz
  have HPZS := Lib.hid hpzs
  clear hpz hpzs hPZ
  go_enter Tryz.func68, Tryz.ntmps68
  go_wp2_with fail
  refine CA.out.mono ?_
  rintro e w1 ⟨u, rfl, ho, hb⟩
  obtain ⟨A, c, rfl⟩ := OW.slice ho
  obtain ⟨g, rfl⟩ : ∃ g, A = some ⟨g, 0, none⟩ := by
    rcases ho.2 with ⟨_, h1⟩ | ⟨g2, cap, cur, hv, _⟩
    · exact absurd h1 (by simp)
    · injection hv with h4 h5 h6
      exact ⟨g2, h4⟩
  have hrow : ∀ (j : Nat) (v : Value), p.toList[j]? = some v → w1.cell? ⟨g, j, none⟩ = some v := fun j v hv => by
    have := ho.cells (g := g) rfl j v (by simpa [pfL] using hv)
    rwa [OW.addr_off, Nat.zero_add] at this
  have HROW := Lib.hid hrow
  have HB := Lib.hid hb
  clear ho hb CA k0 hrow
  go_wp2_with fail
  go_loopw [17] (fun t wr => ∃ k : Nat, k ≤ 1 ∧ t = .int .i64 (k : Nat) ∧ (k = 0 → Below w1.heap.size w1 wr) ∧ (k = 1 → BxAt wr xb pb b (List.replicate (2 * room) plc0) room 0 term rate burst ∧ Two pb b w wr)) (fun t _ => 1 - (intOf t).toNat)
  case atStart => exact ⟨0, by omega, rfl, fun _ => Below.refl _ _, fun h => absurd h (by omega)⟩
  case round =>
    obtain ⟨k, hk, rfl, hB0, hB1⟩ := hrel
    have hs1 := HB.out.size
    rcases (show k = 0 ∨ k = 1 by omega) with rfl | rfl
    · have HB2 := Lib.hid (hB0 rfl)
      clear hB0 hB1
      have hgb : g < w1.heap.size := by
        have := HROW.out 0 (p[0]'(by rw [HPO.out.1]; omega)) (by simp)
        exact World.block_lt_of_cell? _ _ this
      have hld : (Instr.loadAt 65 (.pointer (some ⟨g, 0, none⟩))).run Tryz.prog wr = .ok (.agg p) wr := by
        have := run_loadAt_mid (P := Tryz.prog) wr g 0 65 p.toList _ (fun j v hv => by rw [Nat.zero_add, World.cell?_of_block (HB2.out.block g hgb)]; exact HROW.out j v hv) Tryz.underlying65 rfl (by rw [HPS.out, Array.length_toList])
        simpa using this
      have hs2 := HB2.out.size
      go_upto_region 6 with (first
        | ((with_reducible refine arm_load 20 19 65 _ _ hld ?_ ?_); rfl)
        | ((with_reducible refine arm_alloc 6 65 PZ' 8 HPZ.out ?_); intro w5 HB5 HX5 HS5; have hst := box_store (t := 65) (x := p) HX5.out HPS.out HPO.out.2 (HPZS.out.trans HPO.out.1.symm); have hbx := Lib.hid (box_whole (cs := p) HX5.out (HPO.out.1.trans HPZS.out.symm)); have hf5 := Lib.hid (below_setCells (b := wr.heap.size) (Nat.le_refl _) p.toList 0 HB5.out))
        | ((with_reducible refine arm_store 6 20 65 _ _ _ hst ?_ ?_ ?_); rfl; rfl))
      have B6 := Lib.hid (HB.out.trans ((HB2.out.trans (hf5.out.mono hs2)).mono hs1))
      have P6 := Lib.hid hbx.out
      clear hst hld hbx hf5 HX5 HB5 HS5
      generalize World.setCells w5 _ 0 p.toList = w6 at *
      generalize wr.heap.size = xpb at *
      have HX6 := Lib.hid (HH.out.below B6.out)
      have HL : Hid (∀ w', Below w6.heap.size w6 w' → w'.cell? ⟨xb, 0, none⟩ = some (.pointer (some ⟨pb, 0, none⟩)) ∧ (Instr.loadAt 65 (.pointer (some ⟨xpb, 0, none⟩))).run Tryz.prog w' = .ok (.agg p) w') := Lib.hid fun w' q => ⟨(HX6.out.below q).cells.1, box_load (t := 65) (keep_block q P6.out) _ Tryz.underlying65 rfl HPS.out⟩
      have CG : Hid (∀ w', Below w6.heap.size w6 w' → Calls Tryz.prog 69 #[.pointer (some ⟨pb, 0, none⟩), .agg p] w' fun e w'' => e = .returned (.tuple #[.agg #[.int .i64 til, .pointer tk], .bool true]) ∧ Below w'.heap.size w' w'') := Lib.hid fun w' q => HCG.out w' (HX6.out.below q).tb
      go_wp2_with fail
      refine wp_region_held_drew (S := Below w6.heap.size w6) (by kernel_rfl) (Below.refl _ _).drew (fun hHeld => ?_)
      refine wpAnyH_take (i := 0) (oi := ⟨some 22, _, _, _, _, _⟩) (v := ?_) rfl (by kernel_rfl) (by kernel_rfl) (by kernel_rfl) (fun _ _ _ h => h) (Or.inl ⟨by rfl, ?_⟩) hHeld ?_
      rotate_left
      · intro w hSw
        go_simp
        try with_reducible rfl
      try simp only [Act.put, List.setIfInBounds_toArray, List.set_cons_zero, List.set_cons_succ]
      refine wpAnyH_take (i := 1) (oi := ⟨some 23, _, _, _, _, _⟩) (v := ?_) rfl (by kernel_rfl) (by kernel_rfl) (by kernel_rfl) (fun _ _ _ h => h) (Or.inl ⟨by rfl, ?_⟩) hHeld ?_
      rotate_left
      · intro w hSw
        go_simp
        try with_reducible rfl
      try simp only [Act.put, List.setIfInBounds_toArray, List.set_cons_zero, List.set_cons_succ]
      refine wpAnyH_take (i := 2) (oi := ⟨some 24, _, _, _, _, _⟩) (v := ?_) rfl (by kernel_rfl) (by kernel_rfl) (by kernel_rfl) (fun _ _ _ h => h) (Or.inl ⟨by rfl, ?_⟩) hHeld ?_
      rotate_left
      · intro w hSw
        go_simp
        try with_reducible rfl
      try simp only [Act.put, List.setIfInBounds_toArray, List.set_cons_zero, List.set_cons_succ]
      refine wpAnyH_take (i := 3) (oi := ⟨some 25, _, _, _, _, _⟩) (v := ?_) rfl (by kernel_rfl) (by kernel_rfl) (by kernel_rfl) (fun _ _ _ h => h) (Or.inl ⟨by rfl, ?_⟩) hHeld ?_
      rotate_left
      · intro w hSw
        obtain ⟨k0, _⟩ := HL.out w hSw
        go_simp
        try with_reducible rfl
      try simp only [Act.put, List.setIfInBounds_toArray, List.set_cons_zero, List.set_cons_succ]
      refine wpAnyH_take (i := 4) (oi := ⟨some 26, _, _, _, _, _⟩) (v := .agg p) rfl (by kernel_rfl) (by kernel_rfl) (by kernel_rfl) (fun _ _ _ h => h) (Or.inl ⟨by rfl, fun w hSw => exec_load rfl (HL.out w hSw).2⟩) hHeld ?_
      try simp only [Act.put, List.setIfInBounds_toArray, List.set_cons_zero, List.set_cons_succ]
      refine wpAnyH_ready (rs := [5, 9]) (by kernel_rfl) (by simp) ?_
      refine AllReadyH.cons rfl (fun K hK => ?_) (AllReadyH.cons rfl (fun K hK => ?_) AllReadyH.nil)
      · skip
        go_simp
        go_wp2_with (go_at_call 69; go_must (refine (CG.out _ hHeld).mono ?_; rintro e w5 ⟨rfl, hB⟩))
        refine hK.out _ _ (hHeld.trans (hB.mono hHeld.size)) (fun hHeld => ?_)
        clear hK K
        refine wpAnyH_take (i := 6) (oi := ⟨some 21, _, _, _, _, _⟩) (v := ?_) rfl (by kernel_rfl) (by kernel_rfl) (by kernel_rfl) (fun _ _ _ h => h) (Or.inl ⟨by rfl, ?_⟩) hHeld ?_
        rotate_left
        · intro w hSw
          go_simp
          try with_reducible rfl
        try simp only [Act.put, List.setIfInBounds_toArray, List.set_cons_zero, List.set_cons_succ]
        refine wpAnyH_take (i := 7) (oi := ⟨some 28, _, _, _, _, _⟩) (v := ?_) rfl (by kernel_rfl) (by kernel_rfl) (by kernel_rfl) (fun _ _ _ h => h) (Or.inl ⟨by rfl, ?_⟩) hHeld ?_
        rotate_left
        · intro w hSw
          go_simp
          try with_reducible rfl
        try simp only [Act.put, List.setIfInBounds_toArray, List.set_cons_zero, List.set_cons_succ]
        refine wpAnyH_take (i := 8) (oi := ⟨some 29, _, _, _, _, _⟩) (v := ?_) rfl (by kernel_rfl) (by kernel_rfl) (by kernel_rfl) (fun _ _ _ h => h) (Or.inl ⟨by rfl, ?_⟩) hHeld ?_
        rotate_left
        · intro w hSw
          go_simp
          try with_reducible rfl
        try simp only [Act.put, List.setIfInBounds_toArray, List.set_cons_zero, List.set_cons_succ]
        refine wpAnyH_ready (rs := [9]) (by kernel_rfl) (by simp) ?_
        refine AllReadyH.cons rfl (fun K hK => ?_) AllReadyH.nil
        have hS9 := hHeld.size; refine step_alloc 7 199 EZ 2 ez_zero ?_; intro W9 HB9 HX9 HS9
        refine hK.out _ _ (hHeld.trans (HB9.out.mono hHeld.size)) (fun hHeld => ?_)
        clear hK K
        refine wpAnyH_ready (rs := [10]) (by kernel_rfl) (by simp) ?_
        refine AllReadyH.cons rfl (fun K hK => ?_) AllReadyH.nil
        have HBX := Lib.hid (box_whole (cs := #[.int .i64 til, .pointer tk]) HX9.out rfl); refine step_store 7 28 199 _ _ _ (box_store (x := #[.int .i64 til, .pointer tk]) HX9.out ent_size (by kernel_rfl) rfl) rfl rfl ?_
        refine hK.out _ _ (below_setCells hS9 _ _ hHeld) (fun hHeld => ?_)
        clear hK K
        refine wpAnyH_take (i := 11) (oi := ⟨some 8, _, _, _, _, _⟩) (v := ?_) rfl (by kernel_rfl) (by kernel_rfl) (by kernel_rfl) (fun _ _ _ h => h) (Or.inl ⟨by rfl, ?_⟩) hHeld ?_
        rotate_left
        · intro w hSw
          go_simp
          try with_reducible rfl
        try simp only [Act.put, List.setIfInBounds_toArray, List.set_cons_zero, List.set_cons_succ]
        refine wpAnyH_done (by kernel_rfl) ?_ _
        have HE := Lib.hid hHeld
        clear hHeld
        try simp only [Act.put, List.setIfInBounds_toArray, List.set_cons_zero, List.set_cons_succ]
        generalize World.setCells _ _ 0 (#[.int .i64 til, .pointer tk] : Array Value).toList = wE at *
        have k9 := cells_of_row HBX.out 0 _ rfl
        try have k9' : wE.cell? ⟨w6.heap.size, 0, none⟩ = some (.int .i64 til) := k9
        have hXE := Lib.hid (HX6.out.below HE.out)
        have P9 := Lib.hid (keep_block HE.out P6.out)
        have hB9 := Lib.hid (B6.out.trans (HE.out.mono B6.out.size))
        have n1 := ne_ty P9.out hXE.out.tb.ptr (by decide)
        have n2 := ne_ty P9.out hXE.out.tb.row (by decide)
        have HL2 : Hid (∀ w', Two pb b wE w' → w'.cell? ⟨xb, 0, none⟩ = some (.pointer (some ⟨pb, 0, none⟩)) ∧ (Instr.loadAt 65 (.pointer (some ⟨xpb, 0, none⟩))).run Tryz.prog w' = .ok (.agg p) w') := Lib.hid fun w' q => by
          obtain ⟨m1, m2⟩ := hXE.out.ne
          have a1 := (q.block xb (Array.getElem?_eq_some_iff.1 hXE.out.ptr).1 m1 m2).trans hXE.out.ptr
          have a2 := (q.block xpb (Array.getElem?_eq_some_iff.1 P9.out).1 n1 n2).trans P9.out
          exact ⟨cells_of_row a1 0 _ rfl, box_load (t := 65) a2 _ Tryz.underlying65 rfl HPS.out⟩
        have CD := Lib.hid (HCD.out wE.drew hXE.out.tb.drew)
        go_wp2_with fail
        refine wp_region_held_drew (S := Two pb b wE) (by kernel_rfl) ((Two.refl pb b wE).drewN 1) (fun hHeld => ?_)
        refine wpAnyH_take (i := 0) (oi := ⟨some 35, _, _, _, _, _⟩) (v := ?_) rfl (by kernel_rfl) (by kernel_rfl) (by kernel_rfl) (fun _ _ _ h => h) (Or.inl ⟨by rfl, ?_⟩) hHeld ?_
        rotate_left
        · intro w hSw
          go_simp
          try with_reducible rfl
        try simp only [Act.put, List.setIfInBounds_toArray, List.set_cons_zero, List.set_cons_succ]
        refine wpAnyH_take (i := 1) (oi := ⟨some 36, _, _, _, _, _⟩) (v := ?_) rfl (by kernel_rfl) (by kernel_rfl) (by kernel_rfl) (fun _ _ _ h => h) (Or.inl ⟨by rfl, ?_⟩) hHeld ?_
        rotate_left
        · intro w hSw
          go_simp
          try with_reducible rfl
        try simp only [Act.put, List.setIfInBounds_toArray, List.set_cons_zero, List.set_cons_succ]
        refine wpAnyH_take (i := 2) (oi := ⟨some 37, _, _, _, _, _⟩) (v := ?_) rfl (by kernel_rfl) (by kernel_rfl) (by kernel_rfl) (fun _ _ _ h => h) (Or.inl ⟨by rfl, ?_⟩) hHeld ?_
        rotate_left
        · intro w hSw
          go_simp
          try with_reducible rfl
        try simp only [Act.put, List.setIfInBounds_toArray, List.set_cons_zero, List.set_cons_succ]
        refine wpAnyH_take (i := 3) (oi := ⟨some 38, _, _, _, _, _⟩) (v := ?_) rfl (by kernel_rfl) (by kernel_rfl) (by kernel_rfl) (fun _ _ _ h => h) (Or.inl ⟨by rfl, ?_⟩) hHeld ?_
        rotate_left
        · intro w hSw
          obtain ⟨k0, _⟩ := HL2.out w hSw
          go_simp
          try with_reducible rfl
        try simp only [Act.put, List.setIfInBounds_toArray, List.set_cons_zero, List.set_cons_succ]
        refine wpAnyH_take (i := 4) (oi := ⟨some 39, _, _, _, _, _⟩) (v := .agg p) rfl (by kernel_rfl) (by kernel_rfl) (by kernel_rfl) (fun _ _ _ h => h) (Or.inl ⟨by rfl, fun w hSw => exec_load rfl (HL2.out w hSw).2⟩) hHeld ?_
        try simp only [Act.put, List.setIfInBounds_toArray, List.set_cons_zero, List.set_cons_succ]
        refine wpAnyH_ready (rs := [5]) (by kernel_rfl) (by simp) ?_
        refine AllReadyH.cons rfl (fun K hK => ?_) AllReadyH.nil
        go_simp
        go_wp2_with (go_at_call 128; go_must (refine (CD.out).mono ?_; rintro e w5 ⟨rfl, hT, h2⟩))
        refine hK.out _ _ (hHeld.trans h2) (fun hHeld => ?_)
        clear hK K
        refine wpAnyH_done (by kernel_rfl) ?_ _
        have HT := Lib.hid hT
        have H2 := Lib.hid hHeld
        obtain ⟨m1, m2⟩ := hXE.out.ne
        clear hT h2 hHeld
        go_wp2
        go_roundw
        case rel => exact ⟨1, by omega, by go_num, fun h => absurd h (by omega), fun _ => ⟨⟨(H2.out.block xb (Array.getElem?_eq_some_iff.1 hXE.out.ptr).1 m1 m2).trans hXE.out.ptr, HT.out⟩, (two_ofB hB9.out).trans H2.out⟩⟩
        case measure => simp [intOf]
      · skip
        have hS9 := hHeld.size; refine step_alloc 7 199 EZ 2 ez_zero ?_; intro W9 HB9 HX9 HS9
        refine hK.out _ _ (hHeld.trans (HB9.out.mono hHeld.size)) (fun hHeld => ?_)
        clear hK K
        refine wpAnyH_ready (rs := [5]) (by kernel_rfl) (by simp) ?_
        refine AllReadyH.cons rfl (fun K hK => ?_) AllReadyH.nil
        go_simp
        go_wp2_with (go_at_call 69; go_must (refine (CG.out _ hHeld).mono ?_; rintro e w5 ⟨rfl, hB⟩))
        refine hK.out _ _ (hHeld.trans (hB.mono hHeld.size)) (fun hHeld => ?_)
        clear hK K
        have HX10 := Lib.hid (keep_block hB HX9.out)
        refine wpAnyH_take (i := 6) (oi := ⟨some 21, _, _, _, _, _⟩) (v := ?_) rfl (by kernel_rfl) (by kernel_rfl) (by kernel_rfl) (fun _ _ _ h => h) (Or.inl ⟨by rfl, ?_⟩) hHeld ?_
        rotate_left
        · intro w hSw
          go_simp
          try with_reducible rfl
        try simp only [Act.put, List.setIfInBounds_toArray, List.set_cons_zero, List.set_cons_succ]
        refine wpAnyH_take (i := 7) (oi := ⟨some 28, _, _, _, _, _⟩) (v := ?_) rfl (by kernel_rfl) (by kernel_rfl) (by kernel_rfl) (fun _ _ _ h => h) (Or.inl ⟨by rfl, ?_⟩) hHeld ?_
        rotate_left
        · intro w hSw
          go_simp
          try with_reducible rfl
        try simp only [Act.put, List.setIfInBounds_toArray, List.set_cons_zero, List.set_cons_succ]
        refine wpAnyH_take (i := 8) (oi := ⟨some 29, _, _, _, _, _⟩) (v := ?_) rfl (by kernel_rfl) (by kernel_rfl) (by kernel_rfl) (fun _ _ _ h => h) (Or.inl ⟨by rfl, ?_⟩) hHeld ?_
        rotate_left
        · intro w hSw
          go_simp
          try with_reducible rfl
        try simp only [Act.put, List.setIfInBounds_toArray, List.set_cons_zero, List.set_cons_succ]
        refine wpAnyH_ready (rs := [10]) (by kernel_rfl) (by simp) ?_
        refine AllReadyH.cons rfl (fun K hK => ?_) AllReadyH.nil
        have HBX := Lib.hid (box_whole (cs := #[.int .i64 til, .pointer tk]) HX10.out rfl); refine step_store 7 28 199 _ _ _ (box_store (x := #[.int .i64 til, .pointer tk]) HX10.out ent_size (by kernel_rfl) rfl) rfl rfl ?_
        refine hK.out _ _ (below_setCells hS9 _ _ hHeld) (fun hHeld => ?_)
        clear hK K
        refine wpAnyH_take (i := 11) (oi := ⟨some 8, _, _, _, _, _⟩) (v := ?_) rfl (by kernel_rfl) (by kernel_rfl) (by kernel_rfl) (fun _ _ _ h => h) (Or.inl ⟨by rfl, ?_⟩) hHeld ?_
        rotate_left
        · intro w hSw
          go_simp
          try with_reducible rfl
        try simp only [Act.put, List.setIfInBounds_toArray, List.set_cons_zero, List.set_cons_succ]
        refine wpAnyH_done (by kernel_rfl) ?_ _
        have HE := Lib.hid hHeld
        clear hHeld
        try simp only [Act.put, List.setIfInBounds_toArray, List.set_cons_zero, List.set_cons_succ]
        generalize World.setCells _ _ 0 (#[.int .i64 til, .pointer tk] : Array Value).toList = wE at *
        have k9 := cells_of_row HBX.out 0 _ rfl
        try have k9' : wE.cell? ⟨w6.heap.size, 0, none⟩ = some (.int .i64 til) := k9
        have hXE := Lib.hid (HX6.out.below HE.out)
        have P9 := Lib.hid (keep_block HE.out P6.out)
        have hB9 := Lib.hid (B6.out.trans (HE.out.mono B6.out.size))
        have n1 := ne_ty P9.out hXE.out.tb.ptr (by decide)
        have n2 := ne_ty P9.out hXE.out.tb.row (by decide)
        have HL2 : Hid (∀ w', Two pb b wE w' → w'.cell? ⟨xb, 0, none⟩ = some (.pointer (some ⟨pb, 0, none⟩)) ∧ (Instr.loadAt 65 (.pointer (some ⟨xpb, 0, none⟩))).run Tryz.prog w' = .ok (.agg p) w') := Lib.hid fun w' q => by
          obtain ⟨m1, m2⟩ := hXE.out.ne
          have a1 := (q.block xb (Array.getElem?_eq_some_iff.1 hXE.out.ptr).1 m1 m2).trans hXE.out.ptr
          have a2 := (q.block xpb (Array.getElem?_eq_some_iff.1 P9.out).1 n1 n2).trans P9.out
          exact ⟨cells_of_row a1 0 _ rfl, box_load (t := 65) a2 _ Tryz.underlying65 rfl HPS.out⟩
        have CD := Lib.hid (HCD.out wE.drew hXE.out.tb.drew)
        go_wp2_with fail
        refine wp_region_held_drew (S := Two pb b wE) (by kernel_rfl) ((Two.refl pb b wE).drewN 1) (fun hHeld => ?_)
        refine wpAnyH_take (i := 0) (oi := ⟨some 35, _, _, _, _, _⟩) (v := ?_) rfl (by kernel_rfl) (by kernel_rfl) (by kernel_rfl) (fun _ _ _ h => h) (Or.inl ⟨by rfl, ?_⟩) hHeld ?_
        rotate_left
        · intro w hSw
          go_simp
          try with_reducible rfl
        try simp only [Act.put, List.setIfInBounds_toArray, List.set_cons_zero, List.set_cons_succ]
        refine wpAnyH_take (i := 1) (oi := ⟨some 36, _, _, _, _, _⟩) (v := ?_) rfl (by kernel_rfl) (by kernel_rfl) (by kernel_rfl) (fun _ _ _ h => h) (Or.inl ⟨by rfl, ?_⟩) hHeld ?_
        rotate_left
        · intro w hSw
          go_simp
          try with_reducible rfl
        try simp only [Act.put, List.setIfInBounds_toArray, List.set_cons_zero, List.set_cons_succ]
        refine wpAnyH_take (i := 2) (oi := ⟨some 37, _, _, _, _, _⟩) (v := ?_) rfl (by kernel_rfl) (by kernel_rfl) (by kernel_rfl) (fun _ _ _ h => h) (Or.inl ⟨by rfl, ?_⟩) hHeld ?_
        rotate_left
        · intro w hSw
          go_simp
          try with_reducible rfl
        try simp only [Act.put, List.setIfInBounds_toArray, List.set_cons_zero, List.set_cons_succ]
        refine wpAnyH_take (i := 3) (oi := ⟨some 38, _, _, _, _, _⟩) (v := ?_) rfl (by kernel_rfl) (by kernel_rfl) (by kernel_rfl) (fun _ _ _ h => h) (Or.inl ⟨by rfl, ?_⟩) hHeld ?_
        rotate_left
        · intro w hSw
          obtain ⟨k0, _⟩ := HL2.out w hSw
          go_simp
          try with_reducible rfl
        try simp only [Act.put, List.setIfInBounds_toArray, List.set_cons_zero, List.set_cons_succ]
        refine wpAnyH_take (i := 4) (oi := ⟨some 39, _, _, _, _, _⟩) (v := .agg p) rfl (by kernel_rfl) (by kernel_rfl) (by kernel_rfl) (fun _ _ _ h => h) (Or.inl ⟨by rfl, fun w hSw => exec_load rfl (HL2.out w hSw).2⟩) hHeld ?_
        try simp only [Act.put, List.setIfInBounds_toArray, List.set_cons_zero, List.set_cons_succ]
        refine wpAnyH_ready (rs := [5]) (by kernel_rfl) (by simp) ?_
        refine AllReadyH.cons rfl (fun K hK => ?_) AllReadyH.nil
        go_simp
        go_wp2_with (go_at_call 128; go_must (refine (CD.out).mono ?_; rintro e w5 ⟨rfl, hT, h2⟩))
        refine hK.out _ _ (hHeld.trans h2) (fun hHeld => ?_)
        clear hK K
        refine wpAnyH_done (by kernel_rfl) ?_ _
        have HT := Lib.hid hT
        have H2 := Lib.hid hHeld
        obtain ⟨m1, m2⟩ := hXE.out.ne
        clear hT h2 hHeld
        go_wp2
        go_roundw
        case rel => exact ⟨1, by omega, by go_num, fun h => absurd h (by omega), fun _ => ⟨⟨(H2.out.block xb (Array.getElem?_eq_some_iff.1 hXE.out.ptr).1 m1 m2).trans hXE.out.ptr, HT.out⟩, (two_ofB hB9.out).trans H2.out⟩⟩
        case measure => simp [intOf]
    · have HP := Lib.hid (hB1 rfl)
      clear hB0 hB1
      go_wp2
      go_ret
      exact ⟨rfl, HP.out⟩
end Go.Proofs.YtpanmfdbdgecaaaGreat.C

namespace Go.Proofs.YtpanmfdbdgecaaaGreat.C
open Go.RowKit
set_option linter.unusedVariables false
/-- What a sweep at a moment leaves. -/
def Sweeps (xb pb b room : Nat) (l : List Plc) (nn term rate burst now : Int) (l' : List Plc) (nn' : Int) : Prop :=
  ∀ w, BxAt w xb pb b l room nn term rate burst → Calls Tryz.prog 68 #[.pointer (some ⟨xb, 0, none⟩), .int .i64 now] w fun e w' => e = .returned (.bool true) ∧ BxAt w' xb pb b l' room nn' term rate burst ∧ Two pb b w w'
section
variable {xb pb b room : Nat} {l : List Plc} {nn term rate burst now : Int}
theorem sweeps_none (hl1 : l.length ≤ 65536) (hno : tkn l = []) : Sweeps xb pb b room l nn term rate burst now l nn := fun w h => by
  refine (sweep_none xb pb b room l nn term rate burst now w h hl1 hno).mono ?_
  rintro e w' ⟨rfl, h1, h2⟩
  exact ⟨rfl, h1, two_ofB h2⟩
theorem sweeps_stay {til : Int} {tk : Option Addr} {p0 p1 p2 : Nat} (hg : Gets l p0 p1 p2 til tk true) (hone : tkn l = [pfx p0 p1 p2]) (hn0 : 0 ≤ now) (hlt : now < til) : Sweeps xb pb b room l nn term rate burst now l nn := fun w h => sweep_stay xb pb b room l nn term rate burst now til tk p0 p1 p2 w h hg hone hn0 hlt
theorem sweeps_over {til : Int} {tk : Option Addr} {p0 p1 p2 : Nat} (hg : Gets l p0 p1 p2 til tk true) (hone : tkn l = [pfx p0 p1 p2]) (hn0 : 0 ≤ now) (hlt : til ≤ now) : Sweeps xb pb b room l 1 term rate burst now (List.replicate (2 * room) plc0) 0 := fun w h => sweep_over xb pb b room l term rate burst now til tk p0 p1 p2 w h hg hone hn0 hlt
end
set_option maxRecDepth 100000 in
set_option maxHeartbeats 1000000 in
theorem box_in (xb pb b room : Nat) (l l' : List Plc) (nn nn' term rate burst now til : Int) (tk : Option Addr) (ok : Bool) (p0 p1 p2 : Nat) (w : World) (h : BxAt w xb pb b l room nn term rate burst) (hs : Sweeps xb pb b room l nn term rate burst now l' nn') (hg : Gets l' p0 p1 p2 til tk ok) :
    Calls Tryz.prog 38 #[.pointer (some ⟨xb, 0, none⟩), .agg (pfx p0 p1 p2), .int .i64 now] w fun e w' => e = .returned (.bool ok) ∧ BxAt w' xb pb b l' room nn' term rate burst ∧ Two pb b w w' := by
  have HS := Lib.hid hs
  have HH := Lib.hid h
  have hcg := fun (w' : World) (q : TbAt w' pb b l' room nn') => table_get hg w' q
  have HCG := Lib.hid hcg
  have hps : (Tryz.prog.info? 65).map (·.size) = some (pfx p0 p1 p2).size := pf_size
  have HPS := Lib.hid hps
  clear h hg hcg hs hps
  generalize pfx p0 p1 p2 = p at *
  go_enter Tryz.func38, Tryz.ntmps38
  go_upto_region 1 with ((with_reducible refine arm_box 4 1 65 p ?_ ?_); rfl; intro w1 HB HX HS1)
  have CS := Lib.hid (HS.out w1 (HH.out.below HB.out))
  go_wp2_with fail
  refine CS.out.mono ?_
  rintro e w2 ⟨rfl, hX2, hT2⟩
  have h1 := HH.out.below HB.out
  have n1 := ne_ty HX.out h1.tb.ptr (by decide)
  have n2 := ne_ty HX.out h1.tb.row (by decide)
  have P2 := Lib.hid ((hT2.block _ (Array.getElem?_eq_some_iff.1 HX.out).1 n1 n2).trans HX.out)
  have T2 := Lib.hid (two_ofB (x := pb) (y := b) HB.out |>.trans hT2)
  have HX2 := Lib.hid hX2
  clear hX2 hT2 h1 n1 n2 CS HX HS1 HB
  have HL : Hid (∀ w', Below w2.heap.size w2 w' → w'.cell? ⟨xb, 0, none⟩ = some (.pointer (some ⟨pb, 0, none⟩)) ∧ (Instr.loadAt 65 (.pointer (some ⟨w.heap.size, 0, none⟩))).run Tryz.prog w' = .ok (.agg p) w') := Lib.hid fun w' q => ⟨(HX2.out.below q).cells.1, box_load (t := 65) (keep_block q P2.out) _ Tryz.underlying65 rfl HPS.out⟩
  have CG : Hid (∀ w', Below w2.heap.size w2 w' → Calls Tryz.prog 69 #[.pointer (some ⟨pb, 0, none⟩), .agg p] w' fun e w'' => e = .returned (.tuple #[.agg #[.int .i64 til, .pointer tk], .bool ok]) ∧ Below w'.heap.size w' w'') := Lib.hid fun w' q => HCG.out w' (HX2.out.below q).tb
  go_wp2_with fail
  refine wp_region_held_drew (S := Below w2.heap.size w2) (by kernel_rfl) (Below.refl _ _).drew (fun hHeld => ?_)
  refine wpAnyH_take (i := 0) (oi := ⟨some 14, _, _, _, _, _⟩) (v := ?_) rfl (by kernel_rfl) (by kernel_rfl) (by kernel_rfl) (fun _ _ _ h => h) (Or.inl ⟨by rfl, ?_⟩) hHeld ?_
  rotate_left
  · intro w hSw
    go_simp
    try with_reducible rfl
  try simp only [Act.put, List.setIfInBounds_toArray, List.set_cons_zero, List.set_cons_succ]
  refine wpAnyH_take (i := 1) (oi := ⟨some 15, _, _, _, _, _⟩) (v := ?_) rfl (by kernel_rfl) (by kernel_rfl) (by kernel_rfl) (fun _ _ _ h => h) (Or.inl ⟨by rfl, ?_⟩) hHeld ?_
  rotate_left
  · intro w hSw
    go_simp
    try with_reducible rfl
  try simp only [Act.put, List.setIfInBounds_toArray, List.set_cons_zero, List.set_cons_succ]
  refine wpAnyH_take (i := 2) (oi := ⟨some 16, _, _, _, _, _⟩) (v := ?_) rfl (by kernel_rfl) (by kernel_rfl) (by kernel_rfl) (fun _ _ _ h => h) (Or.inl ⟨by rfl, ?_⟩) hHeld ?_
  rotate_left
  · intro w hSw
    go_simp
    try with_reducible rfl
  try simp only [Act.put, List.setIfInBounds_toArray, List.set_cons_zero, List.set_cons_succ]
  refine wpAnyH_take (i := 3) (oi := ⟨some 17, _, _, _, _, _⟩) (v := ?_) rfl (by kernel_rfl) (by kernel_rfl) (by kernel_rfl) (fun _ _ _ h => h) (Or.inl ⟨by rfl, ?_⟩) hHeld ?_
  rotate_left
  · intro w hSw
    obtain ⟨k0, _⟩ := HL.out w hSw
    go_simp
    try with_reducible rfl
  try simp only [Act.put, List.setIfInBounds_toArray, List.set_cons_zero, List.set_cons_succ]
  refine wpAnyH_take (i := 4) (oi := ⟨some 18, _, _, _, _, _⟩) (v := .agg p) rfl (by kernel_rfl) (by kernel_rfl) (by kernel_rfl) (fun _ _ _ h => h) (Or.inl ⟨by rfl, fun w hSw => exec_load rfl (HL.out w hSw).2⟩) hHeld ?_
  try simp only [Act.put, List.setIfInBounds_toArray, List.set_cons_zero, List.set_cons_succ]
  refine wpAnyH_ready (rs := [5, 9]) (by kernel_rfl) (by simp) ?_
  refine AllReadyH.cons rfl (fun K hK => ?_) (AllReadyH.cons rfl (fun K hK => ?_) AllReadyH.nil)
  · skip
    go_simp
    go_wp2_with (go_at_call 69; go_must (refine (CG.out _ hHeld).mono ?_; rintro e w5 ⟨rfl, hB⟩))
    refine hK.out _ _ (hHeld.trans (hB.mono hHeld.size)) (fun hHeld => ?_)
    clear hK K
    refine wpAnyH_take (i := 6) (oi := ⟨some 13, _, _, _, _, _⟩) (v := ?_) rfl (by kernel_rfl) (by kernel_rfl) (by kernel_rfl) (fun _ _ _ h => h) (Or.inl ⟨by rfl, ?_⟩) hHeld ?_
    rotate_left
    · intro w hSw
      go_simp
      try with_reducible rfl
    try simp only [Act.put, List.setIfInBounds_toArray, List.set_cons_zero, List.set_cons_succ]
    refine wpAnyH_take (i := 7) (oi := ⟨some 20, _, _, _, _, _⟩) (v := ?_) rfl (by kernel_rfl) (by kernel_rfl) (by kernel_rfl) (fun _ _ _ h => h) (Or.inl ⟨by rfl, ?_⟩) hHeld ?_
    rotate_left
    · intro w hSw
      go_simp
      try with_reducible rfl
    try simp only [Act.put, List.setIfInBounds_toArray, List.set_cons_zero, List.set_cons_succ]
    refine wpAnyH_take (i := 8) (oi := ⟨some 21, _, _, _, _, _⟩) (v := ?_) rfl (by kernel_rfl) (by kernel_rfl) (by kernel_rfl) (fun _ _ _ h => h) (Or.inl ⟨by rfl, ?_⟩) hHeld ?_
    rotate_left
    · intro w hSw
      go_simp
      try with_reducible rfl
    try simp only [Act.put, List.setIfInBounds_toArray, List.set_cons_zero, List.set_cons_succ]
    refine wpAnyH_ready (rs := [9]) (by kernel_rfl) (by simp) ?_
    refine AllReadyH.cons rfl (fun K hK => ?_) AllReadyH.nil
    have hS9 := hHeld.size; refine step_alloc 7 199 EZ 2 ez_zero ?_; intro W9 HB9 HX9 HS9
    refine hK.out _ _ (hHeld.trans (HB9.out.mono hHeld.size)) (fun hHeld => ?_)
    clear hK K
    refine wpAnyH_ready (rs := [10]) (by kernel_rfl) (by simp) ?_
    refine AllReadyH.cons rfl (fun K hK => ?_) AllReadyH.nil
    have HBX := Lib.hid (box_whole (cs := #[.int .i64 til, .pointer tk]) HX9.out rfl); refine step_store 7 20 199 _ _ _ (box_store (x := #[.int .i64 til, .pointer tk]) HX9.out ent_size (by kernel_rfl) rfl) rfl rfl ?_
    refine hK.out _ _ (below_setCells hS9 _ _ hHeld) (fun hHeld => ?_)
    clear hK K
    refine wpAnyH_take (i := 11) (oi := ⟨some 8, _, _, _, _, _⟩) (v := ?_) rfl (by kernel_rfl) (by kernel_rfl) (by kernel_rfl) (fun _ _ _ h => h) (Or.inl ⟨by rfl, ?_⟩) hHeld ?_
    rotate_left
    · intro w hSw
      go_simp
      try with_reducible rfl
    try simp only [Act.put, List.setIfInBounds_toArray, List.set_cons_zero, List.set_cons_succ]
    refine wpAnyH_done (by kernel_rfl) ?_ _
    have HE := Lib.hid hHeld
    clear hHeld
    try simp only [Act.put, List.setIfInBounds_toArray, List.set_cons_zero, List.set_cons_succ]
    generalize World.setCells _ _ 0 (#[.int .i64 til, .pointer tk] : Array Value).toList = wE at *
    go_wp2
    go_ret
    exact ⟨rfl, HX2.out.below HE.out, T2.out.trans (two_ofB HE.out)⟩
  · skip
    have hS9 := hHeld.size; refine step_alloc 7 199 EZ 2 ez_zero ?_; intro W9 HB9 HX9 HS9
    refine hK.out _ _ (hHeld.trans (HB9.out.mono hHeld.size)) (fun hHeld => ?_)
    clear hK K
    refine wpAnyH_ready (rs := [5]) (by kernel_rfl) (by simp) ?_
    refine AllReadyH.cons rfl (fun K hK => ?_) AllReadyH.nil
    go_simp
    go_wp2_with (go_at_call 69; go_must (refine (CG.out _ hHeld).mono ?_; rintro e w5 ⟨rfl, hB⟩))
    refine hK.out _ _ (hHeld.trans (hB.mono hHeld.size)) (fun hHeld => ?_)
    clear hK K
    have HX10 := Lib.hid (keep_block hB HX9.out)
    refine wpAnyH_take (i := 6) (oi := ⟨some 13, _, _, _, _, _⟩) (v := ?_) rfl (by kernel_rfl) (by kernel_rfl) (by kernel_rfl) (fun _ _ _ h => h) (Or.inl ⟨by rfl, ?_⟩) hHeld ?_
    rotate_left
    · intro w hSw
      go_simp
      try with_reducible rfl
    try simp only [Act.put, List.setIfInBounds_toArray, List.set_cons_zero, List.set_cons_succ]
    refine wpAnyH_take (i := 7) (oi := ⟨some 20, _, _, _, _, _⟩) (v := ?_) rfl (by kernel_rfl) (by kernel_rfl) (by kernel_rfl) (fun _ _ _ h => h) (Or.inl ⟨by rfl, ?_⟩) hHeld ?_
    rotate_left
    · intro w hSw
      go_simp
      try with_reducible rfl
    try simp only [Act.put, List.setIfInBounds_toArray, List.set_cons_zero, List.set_cons_succ]
    refine wpAnyH_take (i := 8) (oi := ⟨some 21, _, _, _, _, _⟩) (v := ?_) rfl (by kernel_rfl) (by kernel_rfl) (by kernel_rfl) (fun _ _ _ h => h) (Or.inl ⟨by rfl, ?_⟩) hHeld ?_
    rotate_left
    · intro w hSw
      go_simp
      try with_reducible rfl
    try simp only [Act.put, List.setIfInBounds_toArray, List.set_cons_zero, List.set_cons_succ]
    refine wpAnyH_ready (rs := [10]) (by kernel_rfl) (by simp) ?_
    refine AllReadyH.cons rfl (fun K hK => ?_) AllReadyH.nil
    have HBX := Lib.hid (box_whole (cs := #[.int .i64 til, .pointer tk]) HX10.out rfl); refine step_store 7 20 199 _ _ _ (box_store (x := #[.int .i64 til, .pointer tk]) HX10.out ent_size (by kernel_rfl) rfl) rfl rfl ?_
    refine hK.out _ _ (below_setCells hS9 _ _ hHeld) (fun hHeld => ?_)
    clear hK K
    refine wpAnyH_take (i := 11) (oi := ⟨some 8, _, _, _, _, _⟩) (v := ?_) rfl (by kernel_rfl) (by kernel_rfl) (by kernel_rfl) (fun _ _ _ h => h) (Or.inl ⟨by rfl, ?_⟩) hHeld ?_
    rotate_left
    · intro w hSw
      go_simp
      try with_reducible rfl
    try simp only [Act.put, List.setIfInBounds_toArray, List.set_cons_zero, List.set_cons_succ]
    refine wpAnyH_done (by kernel_rfl) ?_ _
    have HE := Lib.hid hHeld
    clear hHeld
    try simp only [Act.put, List.setIfInBounds_toArray, List.set_cons_zero, List.set_cons_succ]
    generalize World.setCells _ _ 0 (#[.int .i64 til, .pointer tk] : Array Value).toList = wE at *
    go_wp2
    go_ret
    exact ⟨rfl, HX2.out.below HE.out, T2.out.trans (two_ofB HE.out)⟩
set_option maxRecDepth 100000 in
theorem box_all (xb pb b room : Nat) (l l' : List Plc) (nn nn' term rate burst now : Int) (w : World) (h : BxAt w xb pb b l room nn term rate burst) (hs : Sweeps xb pb b room l nn term rate burst now l' nn') (hl : l'.length ≤ 65536) (hm : (tkn l').length ≤ 1) :
    Calls Tryz.prog 57 #[.pointer (some ⟨xb, 0, none⟩), .int .i64 now] w fun e w' => (∃ A c, e = .returned (.slice A (tkn l').length c)) ∧ BxAt w' xb pb b l' room nn' term rate burst ∧ Two pb b w w' := by
  have CS := Lib.hid (hs w h)
  have HM := Lib.hid hm
  clear h hs hm
  go_enter Tryz.func57, Tryz.ntmps57
  go_wp2_with fail
  refine CS.out.mono ?_
  rintro e w2 ⟨rfl, hX2, hT2⟩
  have k0 := hX2.cells.1
  have CA := Lib.hid (table_all pb b room l' nn' w2 hX2.tb hl HM.out)
  have HX2 := Lib.hid hX2
  have T2 := Lib.hid hT2
  clear hX2 hT2 CS
  go_wp2_with fail
  refine CA.out.mono ?_
  rintro e w3 ⟨u, rfl, ho, hb⟩
  obtain ⟨A, c, rfl⟩ := OW.slice ho
  have HB := Lib.hid hb
  clear ho hb CA
  go_wp2
  go_ret
  exact ⟨⟨A, c, rfl⟩, HX2.out.below HB.out, T2.out.trans (two_ofB HB.out)⟩
end Go.Proofs.YtpanmfdbdgecaaaGreat.C
