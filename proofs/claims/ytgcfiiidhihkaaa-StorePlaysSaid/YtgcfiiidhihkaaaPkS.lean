/- The walks of slab.Slab[api.Packet] over a slab that lies in memory: has, Get, Free. -/
import Derived.Test.YtgcfiiidhihkaaaWide
import Derived.Test.YtgcfiiidhihkaaaSlabP
import Derived.Test.YtgcfiiidhihkaaaProg
import Derived.KernelRfl
import Derived.StillTailTactics
import Derived.Deep.QuietTactic
import Derived.BigQuiet
import Derived.Outline
import Derived.Laws.MakeOwn
import Derived.Laws.ResultCell
import Derived.WalkKit
namespace Go.Proofs.Ytgcfiiidhihkaaa.C
open Go.RowKit
set_option linter.unusedVariables false
/-- A packet's cells. -/
structure Pk (x : Array Value) : Prop where
  size : x.size = 46
  one : x.all (·.oneCell') = true
/-- The packet of noughts. -/
def PZ : Array Value := ([Value.int .i64 0, Value.bool false, Value.int .u8 0] ++ List.replicate 32 (Value.int .u8 0) ++ [Value.int .u16 0, Value.int .u16 0, Value.bool false] ++ List.replicate 7 (Value.int .u8 0) ++ [Value.int .i64 0]).toArray
theorem pz_zero : (Try.prog.info? 79).map (fun i => (i.zero, i.size)) = some (some (.agg PZ), 46) := by kernel_rfl
theorem pz_built : Try.prog.built 79 [] = some PZ := by kernel_rfl
theorem pk_zero : Pk PZ := ⟨by kernel_rfl, by kernel_rfl⟩
theorem pkt_size : (Try.prog.info? 79).map (·.size) = some 46 := by kernel_rfl
theorem pl_size : (Try.prog.info? 137).map (·.size) = some 48 := by kernel_rfl
theorem pkt_desc : ∃ d, Try.prog.underlying 79 = some d ∧ d.isRow = true := ⟨_, Try.underlying79, rfl⟩
/-- A packet is stored into a box of its own. -/
theorem pkt_store {w : World} {b : Nat} {C x : Array Value} {t : TypeId} (h : w.heap[b]? = some (.cells C t (0, 0))) (hx : Pk x) (hC : C.size = 46 := by rfl) : (Instr.storeAt 79 (.pointer (some ⟨b, 0, none⟩)) (.agg x)).run Try.prog w = .ok () (w.setCells b 0 x.toList) :=
  run_storeAt_mid (P := Try.prog) w b 0 79 x (there_of_block h (by rw [hx.size, hC]; omega)) (by rw [pkt_size, hx.size]) hx.one
theorem pkt_load {w : World} {b : Nat} {x : Array Value} {t : TypeId} (h : w.heap[b]? = some (.cells x t (0, 0))) (hx : Pk x) : (Instr.loadAt 79 (.pointer (some ⟨b, 0, none⟩))).run Try.prog w = .ok (.agg x) w := by
  obtain ⟨d, hd1, hd2⟩ := pkt_desc
  have := run_loadAt_mid (P := Try.prog) w b 0 79 x.toList d (range_of_block h fun j v hv => by simpa using hv) hd1 hd2 (by rw [pkt_size, Array.length_toList, hx.size])
  simpa using this
namespace PS
/-- A place's cells. -/
def cellP (p : Place (Array Value)) : List Value := p.x.toList ++ [.bool p.taken, .int .i64 p.next]
def rowP (l : List (Place (Array Value))) : Array Value := ((l.map cellP).flatten).toArray
def AllPk (l : List (Place (Array Value))) : Prop := ∀ p ∈ l, Pk p.x
theorem cellP_len {p : Place (Array Value)} (h : Pk p.x) : (cellP p).length = 48 := by simp [cellP, h.size]
theorem AllPk.len {l : List (Place (Array Value))} (h : AllPk l) : ∀ c ∈ l.map cellP, c.length = 48 := by
  intro c hc
  obtain ⟨p, hp, rfl⟩ := List.mem_map.1 hc
  exact cellP_len (h p hp)
theorem AllPk.get {l : List (Place (Array Value))} (h : AllPk l) {i : Nat} {p : Place (Array Value)} (hp : l[i]? = some p) : Pk p.x := h p (List.mem_of_getElem? hp)
theorem AllPk.set {l : List (Place (Array Value))} (h : AllPk l) {i : Nat} {p : Place (Array Value)} (hp : Pk p.x) : AllPk (l.set i p) := fun q hq => by
  rcases List.mem_or_eq_of_mem_set hq with hq | rfl
  · exact h q hq
  · exact hp
theorem rowP_size {l : List (Place (Array Value))} (h : AllPk l) : (rowP l).size = l.length * 48 := by
  unfold rowP
  rw [List.size_toArray, flat_length 48 _ h.len, List.length_map]
theorem rowP_at {l : List (Place (Array Value))} (h : AllPk l) {i j : Nat} {p : Place (Array Value)} (hp : l[i]? = some p) (hj : j < 48) : (rowP l)[i * 48 + j]? = (cellP p)[j]? := by
  unfold rowP
  rw [List.getElem?_toArray]
  exact flat_at _ h.len i j _ (by simp [hp]) hj
theorem rowP_set {l : List (Place (Array Value))} (h : AllPk l) {i : Nat} {p : Place (Array Value)} (hi : i < l.length) (hp : Pk p.x) : rowP (l.set i p) = (splice (rowP l).toList (i * 48) (cellP p)).toArray := by
  unfold rowP
  rw [List.map_set, flat_set (m := 48) _ h.len i (cellP p) (by simpa using hi) (cellP_len hp)]
/-- A slab in memory: its struct in block pb, its places in block b. -/
structure SAt (w : World) (pb b : Nat) (first free : Int) (l : List (Place (Array Value))) : Prop where
  ptr : w.heap[pb]? = some (.cells #[.slice (some ⟨b, 0, none⟩) l.length l.length, .int .i64 first, .int .i64 free] 135 (0, 0))
  row : w.heap[b]? = some (.cells (rowP l) 137 (0, 0))
  ok : AllPk l
section
variable {w : World} {pb b : Nat} {first free : Int} {l : List (Place (Array Value))}
theorem SAt.ne (h : SAt w pb b first free l) : pb ≠ b := by
  rintro rfl
  have := h.ptr.symm.trans h.row
  injection this with this
  injection this with _ h2
  exact absurd h2 (by decide)
theorem SAt.c0 (h : SAt w pb b first free l) : w.cell? ⟨pb, 0, none⟩ = some (.slice (some ⟨b, 0, none⟩) l.length l.length) := by rw [cell_of_row _ _ _ _ _ _ h.ptr]; rfl
theorem SAt.c1 (h : SAt w pb b first free l) : w.cell? ⟨pb, 1, none⟩ = some (.int .i64 first) := by rw [cell_of_row _ _ _ _ _ _ h.ptr]; rfl
theorem SAt.c2 (h : SAt w pb b first free l) : w.cell? ⟨pb, 2, none⟩ = some (.int .i64 free) := by rw [cell_of_row _ _ _ _ _ _ h.ptr]; rfl
theorem SAt.tk (h : SAt w pb b first free l) {i : Nat} {p : Place (Array Value)} (hp : l[i]? = some p) : w.cell? ⟨b, i * 48 + 46, none⟩ = some (.bool p.taken) := by
  rw [cell_of_row _ _ _ _ _ _ h.row, rowP_at h.ok hp (by omega)]
  have := (h.ok.get hp).size
  simp [cellP, this]
theorem SAt.nx (h : SAt w pb b first free l) {i : Nat} {p : Place (Array Value)} (hp : l[i]? = some p) : w.cell? ⟨b, i * 48 + 47, none⟩ = some (.int .i64 p.next) := by
  rw [cell_of_row _ _ _ _ _ _ h.row, rowP_at h.ok hp (by omega)]
  have := (h.ok.get hp).size
  simp [cellP, this]
theorem SAt.pk (h : SAt w pb b first free l) {i : Nat} {p : Place (Array Value)} (hp : l[i]? = some p) : (Instr.loadAt 79 (.pointer (some ⟨b, i * 48, none⟩))).run Try.prog w = .ok (.agg p.x) w := by
  have hs := (h.ok.get hp).size
  have hr : w.rangeAt b (i * 48) p.x.toList := range_of_block h.row fun j v hv => by
    have hj := lt_of_some hv
    rw [Array.length_toList] at hj
    rw [rowP_at h.ok hp (by omega)]
    unfold cellP
    rw [List.getElem?_append_left (by simpa using hj)]
    exact hv
  obtain ⟨d, hd1, hd2⟩ := pkt_desc
  have := run_loadAt_mid (P := Try.prog) w b (i * 48) 79 p.x.toList d hr hd1 hd2 (by rw [pkt_size, Array.length_toList, hs])
  simpa using this
theorem SAt.f (h : SAt w pb b first free l) (j : Nat) : w.frozen? ⟨pb, j, none⟩ = false := frozen_of_row _ _ _ _ _ h.ptr
theorem SAt.drewN (h : SAt w pb b first free l) (n : Nat) : SAt (w.drewN n) pb b first free l := ⟨h.ptr, h.row, h.ok⟩
theorem SAt.two (h : SAt w pb b first free l) {w' : World} {g k : Nat} (p : Two g k w w') (h1 : pb ≠ g) (h2 : pb ≠ k) (h3 : b ≠ g) (h4 : b ≠ k) : SAt w' pb b first free l :=
  ⟨(p.block pb (Array.getElem?_eq_some_iff.1 h.ptr).1 h1 h2).trans h.ptr, (p.block b (Array.getElem?_eq_some_iff.1 h.row).1 h3 h4).trans h.row, h.ok⟩
theorem SAt.below (h : SAt w pb b first free l) {w' : World} (p : Below w.heap.size w w') : SAt w' pb b first free l :=
  ⟨(p.block pb (Array.getElem?_eq_some_iff.1 h.ptr).1).trans h.ptr, (p.block b (Array.getElem?_eq_some_iff.1 h.row).1).trans h.row, h.ok⟩
theorem SAt.setFirst (h : SAt w pb b first free l) (x : Int) : SAt (w.setCell ⟨pb, 1, none⟩ (.int .i64 x)) pb b x free l :=
  ⟨by rw [heap_setCell_same _ _ _ _ _ _ h.ptr]; rfl, by rw [heap_setCell_other _ _ _ _ (by simpa using h.ne.symm)]; exact h.row, h.ok⟩
theorem SAt.setFree (h : SAt w pb b first free l) (x : Int) : SAt (w.setCell ⟨pb, 2, none⟩ (.int .i64 x)) pb b first x l :=
  ⟨by rw [heap_setCell_same _ _ _ _ _ _ h.ptr]; rfl, by rw [heap_setCell_other _ _ _ _ (by simpa using h.ne.symm)]; exact h.row, h.ok⟩
/-- A place is stored whole. -/
theorem SAt.setPlace (h : SAt w pb b first free l) {i : Nat} (hi : i < l.length) {p : Place (Array Value)} (hp : Pk p.x) : SAt (w.setCells b (i * 48) (cellP p)) pb b first free (l.set i p) := by
  refine ⟨?_, ?_, h.ok.set hp⟩
  · rw [heap_setCells_other _ _ _ _ _ h.ne, List.length_set]
    exact h.ptr
  · rw [block_setCells _ _ _ _ _ _ h.row (by rw [rowP_size h.ok, cellP_len hp]; have := Nat.mul_le_mul_right 48 (show i + 1 ≤ l.length by omega); omega), rowP_set h.ok hi hp]
theorem SAt.storePlace (h : SAt w pb b first free l) {i : Nat} (hi : i < l.length) {p : Place (Array Value)} (hp : Pk p.x) :
    (Instr.storeAt 137 (.pointer (some ⟨b, i * 48, none⟩)) (.agg (cellP p).toArray)).run Try.prog w = .ok () (w.setCells b (i * 48) (cellP p)) := by
  have hm := Nat.mul_le_mul_right 48 (show i + 1 ≤ l.length by omega)
  have := run_storeAt_mid (P := Try.prog) w b (i * 48) 137 (cellP p).toArray (there_of_block h.row (by rw [rowP_size h.ok, List.size_toArray, cellP_len hp]; omega)) (by rw [pl_size, List.size_toArray, cellP_len hp])
    (all_oneCell_toArray fun v hv => by
      unfold cellP at hv
      rcases List.mem_append.1 hv with hv | hv
      · exact Array.all_eq_true_iff_forall_mem.1 hp.one v (by simpa using hv)
      · simp at hv
        rcases hv with rfl | rfl <;> rfl)
  simpa using this
end
theorem has_nil (i : Int) (w : World) : Calls Try.prog 73 #[.pointer none, .int .i64 i] w fun e w' => e = .returned (.bool false) ∧ w' = w := by
  go_enter Try.func73, Try.ntmps73
  go_wp2
  go_ret
  exact ⟨rfl, rfl⟩
theorem has_any (pb b : Nat) (first free i : Int) (l : List (Place (Array Value))) (w : World) (h : SAt w pb b first free l) (hl : l.length ≤ 65536) :
    Calls Try.prog 73 #[.pointer (some ⟨pb, 0, none⟩), .int .i64 i] w fun e w' => e = .returned (.bool (hasP l i)) ∧ w' = w := by
  have c0 := h.c0
  by_cases h0 : i < 0
  · rw [hasP_out (.inl h0)]
    clear h
    go_enter Try.func73, Try.ntmps73
    go_wp2
    go_ret
    exact ⟨rfl, rfl⟩
  · have h0' : 0 ≤ i := by omega
    by_cases h1 : (l.length : Int) ≤ i
    · rw [hasP_out (.inr h1)]
      have hd : decide (i < (l.length : Int)) = false := by simp; omega
      clear h
      go_enter Try.func73, Try.ntmps73
      go_wp2
      go_ret
      exact ⟨rfl, rfl⟩
    · obtain ⟨i, rfl⟩ := Int.eq_ofNat_of_zero_le h0'
      have hi : i < l.length := by omega
      obtain ⟨p, hp⟩ : ∃ p, l[i]? = some p := ⟨_, List.getElem?_eq_getElem hi⟩
      have q1 := h.tk hp
      rw [hasP_in hp]
      clear h hp
      cases ht : p.taken with
      | false =>
        rw [ht] at q1
        clear ht
        go_enter Try.func73, Try.ntmps73
        go_wp2
        go_ret
        exact ⟨rfl, rfl⟩
      | true =>
        rw [ht] at q1
        clear ht
        go_enter Try.func73, Try.ntmps73
        go_wp2
        go_ret
        exact ⟨rfl, rfl⟩
theorem free_any (pb b : Nat) (first free : Int) (l : List (Place (Array Value))) (w : World) (h : SAt w pb b first free l) :
    Calls Try.prog 65 #[.pointer (some ⟨pb, 0, none⟩)] w fun e w' => e = .returned (.int .i64 free) ∧ w' = w := by
  have c2 := h.c2
  clear h
  go_enter Try.func65, Try.ntmps65
  go_wp2
  go_ret
  exact ⟨rfl, rfl⟩
theorem free_nil (w : World) : Calls Try.prog 65 #[.pointer none] w fun e w' => e = .returned (.int .i64 0) ∧ w' = w := by
  go_enter Try.func65, Try.ntmps65
  go_wp2
  go_ret
  exact ⟨rfl, rfl⟩
set_option maxRecDepth 100000 in
theorem get_yes (pb b i : Nat) (first free nx : Int) (l : List (Place (Array Value))) (x : Array Value) (w : World) (h : SAt w pb b first free l) (hl : l.length ≤ 65536) (hp : Hid (l[i]? = some ⟨x, true, nx⟩)) :
    Calls Try.prog 72 #[.pointer (some ⟨pb, 0, none⟩), .int .i64 i] w fun e w' => e = .returned (.tuple #[.agg x, .bool true]) ∧ Below w.heap.size w w' := by
  have C := Lib.hid (fun w' h' => has_any pb b first free i l w' h' hl)
  rw [hasP_in hp.out] at C
  have hi := lt_of_some hp.out
  have H := Lib.hid h
  clear h
  go_enter Try.func72, Try.ntmps72
  go_wp2_with ((with_reducible refine arm_alloc 4 79 PZ 46 pz_zero ?_); intro w1 HB HX HS)
  have h1 := H.out.below HB.out
  refine (C.out _ h1).mono ?_
  rintro e w2 ⟨rfl, rfl⟩
  have c0 := h1.c0
  have hld := h1.pk hp.out
  have hpk := h1.ok.get hp.out
  have hst := pkt_store HX.out hpk
  have HPK := Lib.hid hpk
  clear h1 hpk H C
  go_wp2_with (first
    | ((with_reducible refine arm_load 19 18 79 (.pointer (some ⟨b, i * 48, none⟩)) (.agg x) hld ?_ ?_); rfl)
    | ((with_reducible refine arm_store 4 19 79 (.pointer (some ⟨w.heap.size, 0, none⟩)) (.agg x) _ hst ?_ ?_ ?_); rfl; rfl))
  have hbx := box_whole HX.out (cs := x) HPK.out.size
  refine bodyPost_ret (res_row_tmp rfl _ _ _ _ _ _ _ rfl hbx Try.underlying79 rfl (by rw [pkt_size, HPK.out.size])) rfl ?_
  exact ⟨rfl, below_setCells (Nat.le_refl _) _ _ HB.out⟩
set_option maxRecDepth 100000 in
theorem get_no (pb b : Nat) (first free i : Int) (l : List (Place (Array Value))) (w : World) (h : SAt w pb b first free l) (hl : l.length ≤ 65536) (hh : hasP l i = false) :
    Calls Try.prog 72 #[.pointer (some ⟨pb, 0, none⟩), .int .i64 i] w fun e w' => e = .returned (.tuple #[.agg PZ, .bool false]) ∧ Below w.heap.size w w' := by
  have C := Lib.hid (fun w' h' => has_any pb b first free i l w' h' hl)
  rw [hh] at C
  have H := Lib.hid h
  clear h hh
  go_enter Try.func72, Try.ntmps72
  go_wp2_with ((with_reducible refine arm_alloc 4 79 PZ 46 pz_zero ?_); intro w1 HB HX HS)
  refine (C.out _ (H.out.below HB.out)).mono ?_
  rintro e w2 ⟨rfl, rfl⟩
  clear C H
  go_wp2_with (first
    | ((with_reducible refine arm_alloc 6 79 PZ 46 pz_zero ?_); intro w3 HB3 HX3 HS3; have HX1 := Lib.hid (keep_block HB3.out HX.out); have hld := pkt_load HX3.out pk_zero; have hst := pkt_store HX1.out pk_zero)
    | ((with_reducible refine arm_load 11 6 79 (.pointer (some ⟨w2.heap.size, 0, none⟩)) (.agg PZ) hld ?_ ?_); rfl)
    | ((with_reducible refine arm_store 4 11 79 (.pointer (some ⟨w.heap.size, 0, none⟩)) (.agg PZ) _ hst ?_ ?_ ?_); rfl; rfl))
  have hbx := box_whole HX1.out (cs := PZ) rfl
  refine bodyPost_ret (res_row_tmp rfl _ _ _ _ _ _ _ rfl hbx Try.underlying79 rfl pkt_size) rfl ?_
  exact ⟨rfl, below_setCells (Nat.le_refl _) _ _ (HB.out.trans (HB3.out.mono HB.out.size))⟩
def plPlaces : List (Nat × Nat) := [(0, 46), (46, 1), (47, 1)]
theorem pl_info : ∃ fs, Try.prog.underlying 137 = some (.struct fs) ∧ (Try.prog.info? 137).map (·.zero) = some (some (.agg (cellP ⟨PZ, false, 0⟩).toArray)) ∧ (fs.toList.mapM fun f => (Try.prog.info? f.type).map fun i => (f.offset, i.size)) = some plPlaces :=
  ⟨_, Try.underlying137, by kernel_rfl, by kernel_rfl⟩
theorem build_take {x : Array Value} (hx : Pk x) (w : World) : (Instr.build 137 #[(0, .agg x), (1, .bool true)]).run Try.prog w = .ok (.agg (cellP ⟨x, true, 0⟩).toArray) w := by
  obtain ⟨fs, h1, h2, h3⟩ := pl_info
  have hs := hx.size
  rw [run_build_lay h1 h2 h3 #[(0, .agg x), (1, .bool true)] ⟨⟨(0, 46), rfl, hs, by decide⟩, ⟨(46, 1), rfl, rfl, by decide⟩, trivial⟩]
  refine congrArg (fun L => Result.ok (Value.agg (List.toArray L)) w) ?_
  have hp : PZ.size = 46 := by rfl
  have hx' : x.toList.length = 46 := by simpa using hs
  show splice (splice (PZ.toList ++ [Value.bool false, .int .i64 0]) 0 x.toList) 46 [Value.bool true] = x.toList ++ [Value.bool true, .int .i64 0]
  have hz : PZ.toList.length = 46 := by rfl
  generalize x.toList = X at *
  generalize PZ.toList = Z at *
  unfold splice
  simp [hx', hz, List.take_append, List.drop_append]
theorem build_give (f : Int) (w : World) : (Instr.build 137 #[(2, .int .i64 f)]).run Try.prog w = .ok (.agg (cellP ⟨PZ, false, f⟩).toArray) w := by
  obtain ⟨fs, h1, h2, h3⟩ := pl_info
  rw [run_build_lay h1 h2 h3 #[(2, .int .i64 f)] ⟨⟨(47, 1), rfl, rfl, by decide⟩, trivial⟩]
  congr 3
end PS
end Go.Proofs.Ytgcfiiidhihkaaa.C
