/- The walks of Pop, New (stores). -/
import Derived.Test.YtgcfiiidhihkaaaStoV
namespace Go.Proofs.Ytgcfiiidhihkaaa.C
open Go.RowKit
set_option linter.unusedVariables false
section
variable {w : World} {a : Adr} {L : List (List (Array Value))} {R : Nat}
/-- Cut at whatever numbers. -/
def cutS (L : List (List (Array Value))) (c k : Int) : List (List (Array Value)) := if (atS L c k).isSome then L.set c.toNat ((L.getD c.toNat []).eraseIdx k.toNat) else L
theorem Sto.lt (h : Sto w a L R) : ∀ x ∈ a.sb :: a.pb :: a.bs, x < w.heap.size := by
  obtain ⟨A, fl, Q, h⟩ := h
  obtain ⟨k1, k2, k3, k4, k5, k6, k7⟩ := h.lt
  intro x hx
  simp [Adr.bs] at hx
  omega
/-- Into a block of the call's own. -/
theorem Sto.fresh {w0 w w' : World} {b : Nat} (h : Sto w a L R) (ha : Amg a.bs w0 w) (hlt : ∀ x ∈ a.sb :: a.pb :: a.bs, x < w0.heap.size) (hb : w0.heap.size ≤ b) (p : Two b b w w') : Sto w' a L R ∧ Amg a.bs w0 w' := by
  obtain ⟨A, fl, Q, hS⟩ := h
  have hM : Mid w0 w a L R A fl Q := ⟨ha, hS.ptr, hS.slab, hS.chain, hS.bytes, ⟨hlt _ (by simp), hlt _ (by simp [Adr.bs]), hlt _ (by simp [Adr.bs]), hlt _ (by simp [Adr.bs]), hlt _ (by simp [Adr.bs]), hlt _ (by simp [Adr.bs]), hlt _ (by simp [Adr.bs])⟩⟩
  exact (hM.fresh hb p).done hS.lk
theorem st_cut (c k : Int) (h : Sto w a L R) :
    Calls Try.prog 51 #[.pointer (some ⟨a.sb, 0, none⟩), .int .i64 c, .int .i64 k] w fun e w' => e = .returned (.tuple #[.agg ((atS L c k).getD PZ), .bool (atS L c k).isSome]) ∧ Sto w' a (cutS L c k) R ∧ Amg a.bs w w' := by
  unfold cutS
  rcases atS_cases L c k with ⟨c, k, l, x, rfl, rfl, hl, hx, he⟩ | ⟨he, hn⟩
  · rw [he, Option.isSome_some, if_pos rfl]
    obtain ⟨A, fl, Q, hS⟩ := h
    have hok := hS.lk.ok l (List.mem_of_getElem? hl) x (List.mem_of_getElem? hx)
    have := st_cut_yes c k (lenP x) x l ⟨A, fl, Q, hS⟩ (lenP_cell (x := x) (by omega)) hl hx
    rw [Int.toNat_natCast, Int.toNat_natCast, List.getD_eq_getElem?_getD, hl]
    exact this
  · rw [he, Option.isSome_none, if_neg (by simp)]
    by_cases hc : 0 ≤ c ∧ c < L.length
    · have h0 := h
      obtain ⟨A, fl, Q, hS⟩ := h
      exact (st_cut_place c k A fl Q hS hc (hS.none_at hn)).mono fun e w' ⟨h1, h2⟩ => ⟨h1, h0.below h2, Amg.of_below h2⟩
    · exact (st_cut_class c k h hc).mono fun e w' ⟨h1, h2⟩ => ⟨h1, h.below h2, Amg.of_below h2⟩
theorem atS_pk {c k : Int} {x : Array Value} (h : Sto w a L R) (he : atS L c k = some x) : Pk x ∧ x[45]? = some (.int .i64 (lenP x)) ∧ 1 ≤ lenP x ∧ lenP x ≤ 9216 := by
  obtain ⟨A, fl, Q, h⟩ := h
  rcases atS_cases L c k with ⟨c, k, l, x', rfl, rfl, hl, hx, he'⟩ | ⟨he', hn⟩
  · rw [he] at he'
    injection he' with he'
    subst he'
    obtain ⟨q, hq, hql⟩ := h.lk.line hl
    have hkl := lt_of_some hx
    obtain ⟨p, hp⟩ : ∃ p, q[k]? = some p := ⟨_, List.getElem?_eq_getElem (by omega)⟩
    obtain ⟨l', x', h1, h2, h3⟩ := h.lk.at_ hq hp
    rw [hl] at h1
    injection h1 with h1
    subst h1
    rw [hx] at h2
    injection h2 with h2
    subst h2
    have := h.lk.ok l (List.mem_of_getElem? hl) x (List.mem_of_getElem? hx)
    exact ⟨h.slab.pk h3, lenP_cell (x := x) (by omega), this⟩
  · rw [he] at he'
    cases he'
theorem getD_pk {c k : Int} (h : Sto w a L R) : Pk ((atS L c k).getD PZ) := by
  cases he : atS L c k with
  | none => exact pk_zero
  | some x => exact (atS_pk h he).1
set_option maxRecDepth 100000 in
theorem st_pop (c : Int) (h : Sto w a L R) :
    Calls Try.prog 44 #[.pointer (some ⟨a.sb, 0, none⟩), .int .i64 c] w fun e w' => e = .returned (.tuple #[.agg ((atS L c 0).getD PZ), .bool (atS L c 0).isSome]) ∧ Sto w' a (cutS L c 0) R ∧ Amg a.bs w w' := by
  have CC := Lib.hid (fun w' (p : Below w.heap.size w w') => st_cut c 0 (h.below p))
  have HPK := Lib.hid (getD_pk (c := c) (k := 0) h)
  have hlt := h.lt
  have HLT := Lib.hid hlt
  clear h hlt
  generalize (atS L c 0).getD PZ = x at *
  generalize (atS L c 0).isSome = o at *
  go_enter Try.func44, Try.ntmps44
  go_upto_region 1 with ((with_reducible refine arm_alloc 4 79 PZ 46 pz_zero ?_); intro w1 HB HX HS)
  go_wp2_with fail
  refine (CC.out _ HB.out).mono ?_
  rintro e w2 ⟨rfl, hS2, hA2⟩
  have HX2 := Lib.hid (hA2.keep HX.out (fun hm => absurd (HLT.out w.heap.size (List.mem_cons_of_mem _ (List.mem_cons_of_mem _ hm))) (Nat.lt_irrefl _)))
  have HS2 := Lib.hid hS2
  have HA2 := Lib.hid ((Amg.of_below (bs := a.bs) HB.out).trans hA2)
  have hst := pkt_store HX2.out HPK.out
  clear CC hS2 hA2 HX HB
  go_wp2_with ((with_reducible refine arm_store 4 9 79 (.pointer (some ⟨w.heap.size, 0, none⟩)) (.agg x) _ hst ?_ ?_ ?_); rfl; rfl)
  have hbx := box_whole HX2.out (cs := x) HPK.out.size
  refine bodyPost_ret (res_row_tmp rfl _ _ _ _ _ _ _ rfl hbx Try.underlying79 rfl (by rw [pkt_size, HPK.out.size])) rfl ?_
  have ht : Two w.heap.size w.heap.size w2 (w2.setCells w.heap.size 0 x.toList) := Two.setCells (.inl rfl) _ _ (Two.refl _ _ _)
  exact ⟨rfl, HS2.out.fresh HA2.out HLT.out (Nat.le_refl _) ht⟩
end
theorem make_i64 (n : Nat) (hn : n ≤ 65536) (W : World) : (Instr.makeSlice 125 (.int .i64 (n : Int)) (.int .i64 (n : Int))).run Try.prog W = .ok (.slice (some ⟨W.heap.size, 0, none⟩) n n) (W.alloc (.cells (bytesV (List.replicate n [])).toArray 2)) := by
  obtain ⟨i0, hi, hz0, hz1, hz2⟩ := info_parts (show (Try.prog.info? 2).map (fun i => (i.zero, i.size, i.bytes)) = some (some (.int .i64 0), 1, 8) by kernel_rfl)
  have hr := run_make (P := Try.prog) W 125 2 i0 (.int .i64 0) Try.underlying125 hi hz0 .i64 .i64 n n (by omega) (by omega) (by rw [hz2]; omega) (by omega)
  simp only [Int.toNat_natCast] at hr
  rw [hr, hz1, Nat.mul_one]
  have e : madeCells (Value.int .i64 0).cells n = (bytesV (List.replicate n [])).toArray := by
    apply Array.toList_inj.1
    show (madeCells #[Value.int .i64 0] n).toList = _
    rw [toList_madeCells_one]
    simp [bytesV, sumL]
  rw [e]
set_option maxRecDepth 100000 in
theorem st_new (n R : Nat) (w : World) (h1 : 1 ≤ n) (h2 : n ≤ 129) (h3 : 1 ≤ R) (h4 : R ≤ 4096) :
    Calls Try.prog 42 #[.int .i64 (n : Nat), .int .i64 (R : Nat)] w fun e w' => ∃ a : Adr, e = .returned (.tuple #[.pointer (some ⟨a.sb, 0, none⟩), .int .i64 0]) ∧ (∀ x ∈ a.sb :: a.pb :: a.bs, w.heap.size ≤ x) ∧ Sto w' a (List.replicate n []) R ∧ Below w.heap.size w w' := by
  have C1 := Lib.hid (CH.c_new n R w h1 h2 h3 h4)
  have C2 := Lib.hid (fun w' => PS.s_new R w' h3 h4)
  have hmx : (if (R : Int) < 1 then (1 : Int) else (R : Int)) = (R : Int) := by rw [if_neg (by omega)]
  go_enter Try.func42, Try.ntmps42
  go_wp2_with fail
  refine C1.out.mono ?_
  rintro e w1 ⟨pb, b1, b2, rfl, g1, g2, g3, hC, hB⟩
  have HC := Lib.hid hC
  have HB := Lib.hid hB
  have HG := Lib.hid (And.intro g1 (And.intro g2 g3))
  clear C1 hC hB g1 g2 g3
  go_wp2_with fail
  refine (C2.out _).mono ?_
  rintro e w2 ⟨rfl, hS, hB2⟩
  have hmk := make_i64 n (by omega)
  have HS := Lib.hid hS
  have HB2 := Lib.hid hB2
  clear C2 hS hB2
  go_wp2
  go_ret2
  have hb2 := HB2.out
  have hg := HG.out
  have hs1 := HB.out.size
  have hs2 := hb2.size
  have p1 : Below w2.heap.size w2 (w2.alloc (.cells (bytesV (List.replicate n [])).toArray 2)) := (Below.refl _ _).alloc (Nat.le_refl _) _
  have p2 := p1.alloc (by simp) (.cells #[.pointer (some ⟨w1.heap.size + 1, 0, none⟩), .pointer (some ⟨pb, 0, none⟩), .slice (some ⟨w2.heap.size, 0, none⟩) n n] 127)
  refine ⟨⟨w2.heap.size + 1, w1.heap.size + 1, w1.heap.size, pb, b1, b2, w2.heap.size⟩, rfl, ?_, ⟨_, _, _, ⟨?_, HS.out.below p2, (HC.out.below hb2).below p2, ?_, Linked.new n R⟩⟩, (HB.out.trans (hb2.mono hs1)).trans (p2.mono (by omega))⟩
  · intro x hx
    simp [Adr.bs] at hx
    omega
  · rw [List.length_replicate]
    have := Go.heap_alloc_new (w2.alloc (.cells (bytesV (List.replicate n [])).toArray 2)) (.cells #[.pointer (some ⟨w1.heap.size + 1, 0, none⟩), .pointer (some ⟨pb, 0, none⟩), .slice (some ⟨w2.heap.size, 0, none⟩) n n] 127)
    simpa using this
  · rw [Go.heap_alloc_old _ _ (by simp)]
    exact Go.heap_alloc_new _ _
end Go.Proofs.Ytgcfiiidhihkaaa.C
