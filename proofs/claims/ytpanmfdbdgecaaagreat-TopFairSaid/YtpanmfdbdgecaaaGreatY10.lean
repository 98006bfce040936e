/- The engine: Frame. · The engine: Frame of a frame that arrives. (Printed by frametail.py.) · Plain: the box with nobody, and with one, in it; the window with one slot. · The sketch: Add of a prefix that has a slot. (Printed by sketchold.py.) · Plain: the box's table with several in it, the sketch of several. · SipHash of two parts. · Whither a flow falls, by a key: its bucket, its bins of one level. · Turns of which one at most is awake: Sleep, last, Pick. -/
import Derived.Test.YtpanmfdbdgecaaaGreatY9
import Derived.Deep.RegionLaw
import Derived.Lib.SliceRun
import Derived.Laws.IdiomCopy
import Derived.Deep.LoopGhost
import Derived.Handy
namespace Go.Proofs.YtpanmfdbdgecaaaGreat.C
open Go.RowKit
set_option linter.unusedVariables false
theorem pz_size46 : PZ.size = 46 := by kernel_rfl
section
variable {w : World} {a : EAd} {F : PCf} {S : PSt} {now nx : Int} {N : Nat → Int}
set_option maxRecDepth 100000 in
set_option maxHeartbeats 4000000 in
theorem frame_short (dr : Array Value) (h : Eng w a F S now N nx) :
    Calls Tryz.prog 11 #[.pointer (some ⟨a.eb, 0, none⟩), .slice none 0 0, .agg dr] w fun e w' => e = .returned (.agg #[.int .i64 (-1), .int .i64 1, .int .i64 (-1), .int .i64 (-1), .bool false, .bool false]) ∧ Eng w' a F S now (adN (adN (adN N 0 1) 1 1) 16 1) nx ∧ Tur a.A.tg [10] w w' := by
  have CA := Lib.hid (fun w' (q : Eng w' a F S now N nx) => eng_ahead q)
  have C1 : Hid (∀ w', Eng w' a F S now N nx → Calls Tryz.prog 29 #[.pointer (some ⟨a.eb, 3, none⟩), .int .i64 0, .int .i64 1] w' fun e w'' => e = .returned (.tuple #[]) ∧ Eng w'' a F S now (adN N 0 1) nx ∧ Tur a.A.tg [10] w' w'') := Lib.hid fun w' q => eng_add 0 1 q (by decide)
  have C2 : Hid (∀ w', Eng w' a F S now (adN N 0 1) nx → Calls Tryz.prog 29 #[.pointer (some ⟨a.eb, 3, none⟩), .int .i64 1, .int .i64 1] w' fun e w'' => e = .returned (.tuple #[]) ∧ Eng w'' a F S now (adN (adN N 0 1) 1 1) nx ∧ Tur a.A.tg [10] w' w'') := Lib.hid fun w' q => eng_add 1 1 q (by decide)
  have C3 : Hid (∀ w', Eng w' a F S now (adN (adN N 0 1) 1 1) nx → Calls Tryz.prog 31 #[.pointer (some ⟨a.eb, 3, none⟩), .int .i64 1, .int .i64 1] w' fun e w'' => e = .returned (.tuple #[]) ∧ Eng w'' a F S now (adN (adN (adN N 0 1) 1 1) 16 1) nx ∧ Tur a.A.tg [10] w' w'') := Lib.hid fun w' q => eng_because 1 1 q (by decide)
  have CF := Lib.hid (fun w' => frame_nil w')
  obtain ⟨VZ0, hVZ⟩ : ∃ z, VZ = z := ⟨_, rfl⟩
  have hvz := vz_zero
  rw [hVZ] at hvz
  have HVZ := Lib.hid hvz
  have HVE := Lib.hid hVZ
  have hpz := pz_zero
  have hps := pk_size
  have hp46 := pz_size46
  have hpa : PZ.all (·.oneCell') = true := by kernel_rfl
  generalize PZ = Z at *
  have HPZ := Lib.hid hpz
  have HPS := Lib.hid hps
  have HP46 := Lib.hid hp46
  have HPA := Lib.hid hpa
  have HE := Lib.hid h
  have hlim := h.lim
  clear h hvz hVZ hpz hps hp46 hpa
  refine calls_hide fun Q HQ => ?_
  go_enter Tryz.func11, Tryz.ntmps11
  go_upto_region 3 with (first | ((with_reducible refine arm_box 5 2 41 dr ?_ ?_); rfl; intro w1 HB1 HX1 HS1) | ((with_reducible refine arm_alloc 6 35 VZ0 6 HVZ.out ?_); intro w2 HB2 HX2 HS2))
  have HE2 := Lib.hid ((HE.out.below HB1.out).below HB2.out)
  have T2 : Hid (Tur a.A.tg [10] w w2) := Lib.hid ((Tur.of_below HB1.out).below HB2.out)
  have R2 := Lib.hid HX2.out
  have hz : a.A.tg w1.heap.size = 0 := HE.out.pol.ok.hi _ (Nat.le_trans hlim HB1.out.size)
  have hrb : w.heap.size ≤ w1.heap.size := HB1.out.size
  generalize w1.heap.size = rb at *
  clear HB1 HX1 HS1 HB2 HX2 HS2
  go_wp2_with fail
  refine (CA.out _ HE2.out).mono ?_
  rintro e w3 ⟨rfl, rfl⟩
  go_wp2_with fail
  refine (C1.out _ HE2.out).mono ?_
  rintro e w4 ⟨rfl, h4, t4⟩
  have HE4 := Lib.hid h4
  have T4 := Lib.hid (T2.out.trans t4)
  have R4 := Lib.hid (t4.keep R2.out (by rw [hz]; decide))
  clear h4 t4 HE2 T2 R2 C1 CA
  go_wp2_with fail
  refine (CF.out _).mono ?_
  rintro e w5 ⟨rfl, hB⟩
  have HE5 := Lib.hid (HE4.out.below hB)
  have T5 := Lib.hid (T4.out.below hB)
  have R5 := Lib.hid (keep_block hB R4.out)
  clear hB HE4 T4 R4 CF
  go_upto_region 6 with (first | ((with_reducible refine arm_alloc 7 68 Z 46 HPZ.out ?_); intro w6 HB6 HX6 HS6; have hst := box_store (t := 68) (x := Z) HX6.out HPS.out HPA.out rfl; have hf6 := Lib.hid (below_setCells (b := w5.heap.size) (Nat.le_refl _) Z.toList 0 HB6.out)) | ((with_reducible refine arm_store 7 22 68 _ _ _ hst ?_ ?_ ?_); rfl; rfl))
  have HE6 := Lib.hid (HE5.out.below hf6.out)
  have T6 := Lib.hid (T5.out.below hf6.out)
  have R6 := Lib.hid (keep_block hf6.out R5.out)
  clear hst HX6 HB6 HS6 hf6 HE5 T5 R5
  generalize World.setCells w6 _ 0 Z.toList = w7 at *
  go_wp2_with fail
  refine (C2.out _ HE6.out).mono ?_
  rintro e w8 ⟨rfl, h8, t8⟩
  have HE8 := Lib.hid h8
  have T8 := Lib.hid (T6.out.trans t8)
  have R8 := Lib.hid (t8.keep R6.out (by rw [hz]; decide))
  clear h8 t8 HE6 T6 R6 C2
  go_wp2_with fail
  refine (C3.out _ HE8.out).mono ?_
  rintro e w9 ⟨rfl, h9, t9⟩
  have HE9 := Lib.hid h9
  have T9 := Lib.hid (T8.out.trans t9)
  have R9 := Lib.hid (t9.keep R8.out (by rw [hz]; decide))
  clear h9 t9 HE8 T8 R8 C3
  have hvt : (Tryz.prog.info? 35).map (·.size) = some 6 := by kernel_rfl
  have hz6 : VZ0.size = 6 := by rw [← HVE.out]; rfl
  have hst := box_store (t := 35) (x := #[.int .i64 (-1), .int .i64 1, .int .i64 (-1), .int .i64 (-1), .bool false, .bool false]) R9.out hvt (by kernel_rfl) hz6
  have hbox := box_whole (cs := #[.int .i64 (-1), .int .i64 1, .int .i64 (-1), .int .i64 (-1), .bool false, .bool false]) R9.out hz6.symm
  have tj : Tur a.A.tg [0] w9 (World.setCells w9 rb 0 (#[.int .i64 (-1), .int .i64 1, .int .i64 (-1), .int .i64 (-1), .bool false, .bool false] : Array Value).toList) := Tur.of_two (Two.setCells (g := rb) (h := rb) (.inl rfl) _ 0 (Two.refl _ _ _)) (by simp [hz]) (by simp [hz])
  have HEJ := Lib.hid (HE9.out.tur tj (by intro k h1 h2; simp; omega))
  have TJ : Hid (Tur a.A.tg [10] w (World.setCells w9 rb 0 (#[.int .i64 (-1), .int .i64 1, .int .i64 (-1), .int .i64 (-1), .bool false, .bool false] : Array Value).toList)) := Lib.hid (T9.out.trans2 (f := a.A.tg) (g := fun k => if k = rb then 10 else a.A.tg k) (Tur.of_two (Two.setCells (g := rb) (h := rb) (.inl rfl) _ 0 (Two.refl _ _ _)) (by simp) (by simp)) (fun k hk => if_neg (by omega)))
  have HBXX := Lib.hid hbox
  clear hbox tj
  go_wp2_with ((with_reducible refine arm_store 6 36 35 _ _ _ hst ?_ ?_ ?_); rfl; rfl)
  refine bodyPost_ret (results_cell_row rfl _ _ _ _ _ _ _ rfl HBXX.out Tryz.underlying35 rfl hvt) rfl ?_
  exact HQ.out _ _ ⟨rfl, HEJ.out, TJ.out⟩
end
end Go.Proofs.YtpanmfdbdgecaaaGreat.C

namespace Go.Proofs.YtpanmfdbdgecaaaGreat.C
open Go.RowKit
set_option linter.unusedVariables false
theorem FrAt.tur {f : Nat → Nat} {ks : List Nat} {w w' : World} {g o n c : Nat} {B : Nat → Nat} (h : FrAt w g o n c B) (t : Tur f ks w w') (hne : f g ∉ ks) : FrAt w' g o n c B :=
  ⟨fun j hj => by rw [World.cell?_of_block (t.block g h.blk hne)]; exact h.cell j hj, h.byte, h.cap, Nat.lt_of_lt_of_le h.blk t.size⟩
theorem Tur.fresh {f : Nat → Nat} {ks : List Nat} {a b : World} (p : Tur f ks a b) {x : Nat} (hx : a.heap.size ≤ x) (cs : List Value) (o : Nat) : Tur f ks a (b.setCells x o cs) := by
  have q := Two.setCells (g := x) (h := x) (.inl rfl) cs o (Two.refl x x b)
  exact ⟨q.os.trans p.os, q.tape.trans p.tape, q.output.trans p.output, Nat.le_trans p.size q.size, fun k hk hn => (q.block k (Nat.lt_of_lt_of_le hk p.size) (by omega) (by omega)).trans (p.block k hk hn)⟩
theorem Eng.fresh {w : World} {a : EAd} {F : PCf} {S : PSt} {now nx : Int} {N : Nat → Int} (h : Eng w a F S now N nx) {x : Nat} (hx : a.A.tg x = 0) (cs : List Value) (o : Nat) : Eng (w.setCells x o cs) a F S now N nx :=
  h.tur (ks := [0]) (Tur.of_two (Two.setCells (g := x) (h := x) (.inl rfl) cs o (Two.refl x x w)) (by simp [hx]) (by simp [hx])) (by intro k h1 h2; simp; omega)
section
variable {w : World} {a : EAd} {F : PCf} {S : PSt} {now nx : Int} {N : Nat → Int}
end
end Go.Proofs.YtpanmfdbdgecaaaGreat.C

namespace Go.Proofs.YtpanmfdbdgecaaaGreat.C
open Go.RowKit
set_option linter.unusedVariables false
/-- Nobody is in it. -/
def emp (room : Nat) : List Plc := List.replicate (2 * room) plc0
theorem emp_len (room : Nat) : (emp room).length = 2 * room := by simp [emp]
theorem emp_at {room j : Nat} (h : j < 2 * room) : (emp room)[j]? = some plc0 := by simp [emp, h]
def spot0 (room p0 p1 p2 : Nat) : Nat := (pfH p0 p1 p2 % ((emp room).length : Nat)).toNat % (2 * room)
theorem spot0_lt {room : Nat} (h : 1 ≤ room) (p0 p1 p2 : Nat) : spot0 room p0 p1 p2 < 2 * room := Nat.mod_lt _ (by omega)
theorem at1_emp {room : Nat} (h : 1 ≤ room) (p0 p1 p2 : Nat) : at1 (emp room) p0 p1 p2 = (-1, (spot0 room p0 p1 p2 : Int)) := by
  have hl := emp_len room
  have hlt := spot0_lt h p0 p1 p2
  unfold at1
  obtain ⟨m, hm⟩ : ∃ m, (emp room).length = m + 1 := ⟨(emp room).length - 1, by omega⟩
  generalize hfr : (pfH p0 p1 p2 % ((emp room).length : Nat)).toNat = fr
  have hs : spot0 room p0 p1 p2 = fr % (2 * room) := by rw [← hfr]; rfl
  rw [hm, fnd, Nat.add_zero, hl, emp_at (by rw [← hs]; exact hlt)]
  simp [plc0, hs]
theorem tkn_emp (room : Nat) : tkn (emp room) = [] := by
  unfold tkn emp
  rw [List.filter_eq_nil_iff.2 (fun x hx => by obtain ⟨_, rfl⟩ := List.mem_replicate.1 hx; simp [plc0])]
  rfl
theorem qz_flat : Flat Tryz.prog 65 QZ := by
  have h : QZ = pfx 0 0 0 := by kernel_rfl
  rw [h]
  exact pfx_flat 0 0 0 (by decide) (by decide) (by decide)
theorem emp_flat {room : Nat} : ∀ x ∈ emp room, Flat Tryz.prog 65 x.p := fun x hx => by
  obtain ⟨_, rfl⟩ := List.mem_replicate.1 hx
  exact qz_flat
theorem emp_gets {room p0 p1 p2 : Nat} (h : 1 ≤ room) (h2 : room ≤ 64) (hb : p0 < 256 ∧ p1 < 256 ∧ p2 < 256) : Gets (emp room) p0 p1 p2 0 none false :=
  ⟨emp_flat, hb, by rw [emp_len]; omega, .inl ⟨rfl, by rw [at1_emp h], rfl, rfl⟩⟩
/-- One is in it. -/
def one (room p0 p1 p2 : Nat) (til : Int) (tb : Nat) : List Plc := (emp room).set (spot0 room p0 p1 p2) ⟨1, pfx p0 p1 p2, til, some tb⟩
theorem addC_zero {n : Int} (h : 0 ≤ n ∧ n ≤ 4611686018427387904) : addC 0 n = n := by
  unfold addC cnt
  split <;> split <;> omega
end Go.Proofs.YtpanmfdbdgecaaaGreat.C

namespace Go.Proofs.YtpanmfdbdgecaaaGreat.C
open Go.RowKit
set_option linter.unusedVariables false
set_option maxRecDepth 100000 in
set_option maxHeartbeats 4000000 in
theorem sketch_add_old (pb b room n : Nat) (l : List Slt) (x0 : Slt) (total m : Int) (p0 p1 p2 : Nat) (w : World) (h : SkAt w pb b l room total) (hok : ∀ x ∈ l, SltOk x) (hf : Flat Tryz.prog 65 (pfx p0 p1 p2)) (hl : l.length ≤ 65536) (hm : 0 ≤ m ∧ m ≤ 4611686018427387904) (hno : fndS l (pfx p0 p1 p2) l.length 0 = (n : Int)) (hx0 : l[n]? = some x0) :
    Calls Tryz.prog 67 #[.pointer (some ⟨pb, 0, none⟩), .agg (pfx p0 p1 p2), .int .i64 m] w fun e w' => e = .returned (.agg (sltC ⟨x0.p, addC x0.count m, x0.err⟩).toArray) ∧ SkAt w' pb b (l.set n ⟨x0.p, addC x0.count m, x0.err⟩) room (addC total m) ∧ Two pb b w w' := by
  have hkl := (List.getElem?_eq_some_iff.1 hx0).1
  have HXC := Lib.hid hx0
  have HOKC := Lib.hid hok
  have hps : (Tryz.prog.info? 65).map (·.size) = some (pfx p0 p1 p2).size := pf_size
  have HPS := Lib.hid hps
  have HH := Lib.hid h
  have hcf := fun (t : Int) (w' : World) (q : SkAt w' pb b l room t) => sketch_find pb b room l t (pfx p0 p1 p2) w' q hok hf rfl hl
  rw [hno] at hcf
  have HCF := Lib.hid hcf
  have hpo := pfx_ok p0 p1 p2
  have HPO := Lib.hid hpo
  have hbw0 : b < w.heap.size := by
    obtain ⟨C, hC, _⟩ := h.row
    exact (Array.getElem?_eq_some_iff.1 hC).1
  have CN := Lib.hid (num_count m)
  rw [cnt_in hm.1 hm.2] at CN
  have CA1 := Lib.hid (num_add total m)
  have CA2 := Lib.hid (num_add x0.count m)
  obtain ⟨SZ, hSZ⟩ : ∃ z, SlZ = z := ⟨_, rfl⟩
  have hsz := slz_zero
  have hszs : SZ.size = 10 := by rw [← hSZ]; rfl
  rw [hSZ] at hsz
  have HSZ := Lib.hid hsz
  have HSZS := Lib.hid hszs
  clear hps h hcf hpo hsz hszs hSZ hno hok hx0
  generalize pfx p0 p1 p2 = p at *
  obtain ⟨t1, ht1⟩ : ∃ t, addC total m = t := ⟨_, rfl⟩
  rw [ht1] at CA1 ⊢
  clear ht1
  go_enter Tryz.func67, Tryz.ntmps67
  go_upto_region 1 with (first | ((with_reducible refine arm_box 4 1 65 p ?_ ?_); rfl; intro w1 HB1 HX1 HS1) | ((with_reducible refine arm_alloc 6 195 SZ 10 HSZ.out ?_); intro w2 HB2 HX2 HS2))
  have B2 := Lib.hid (HB1.out.trans (HB2.out.mono HB1.out.size))
  have P2 := Lib.hid (keep_block HB2.out HX1.out)
  have R2 := Lib.hid HX2.out
  have hrb := HB1.out.size
  clear HX1 HX2
  generalize w1.heap.size = rb at *
  have HNRB := Lib.hid (show rb ≠ b by omega)
  have hS2 := HH.out.below B2.out
  have k1 := hS2.cells.2.1
  have HS2' := Lib.hid hS2
  clear hS2
  go_wp2_with fail
  refine (CN.out _).mono ?_
  rintro e w3 ⟨rfl, rfl⟩
  go_wp2_with fail
  refine (CA1.out w3.heap.size _ (new_c0 w3 _ _ 2) (new_c1 w3 _ _ 2)).mono ?_
  rintro e w4 ⟨rfl, rfl⟩
  have hb4 : Below w3.heap.size w3 (w3.alloc (.cells #[.int .i64 total, .int .i64 m] 2)) := (Below.refl _ _).alloc (Nat.le_refl _) _
  have hS4 := HS2'.out.below hb4
  have P4 := Lib.hid (keep_block hb4 P2.out)
  have R4 := Lib.hid (keep_block hb4 R2.out)
  have B4 := Lib.hid (B2.out.trans (hb4.mono B2.out.size))
  obtain ⟨_, k1', ff⟩ := hS4.cells
  have f1 := ff 1
  have HS4 := Lib.hid hS4
  clear hS4 hb4 k1 ff HS2' P2 R2 B2 CN CA1
  generalize w3.alloc (.cells #[.int .i64 total, .int .i64 m] 2) = w4 at *
  have n1 := ne_ty P4.out HS4.out.ptr (by decide)
  have n2 := ne_ty R4.out HS4.out.ptr (by decide)
  have hS5 := HS4.out.setTotal t1
  have hP5 : (w4.setCell ⟨pb, 1, none⟩ (.int .i64 t1)).heap[w.heap.size]? = some (.cells p 65 (0, 0)) := (heap_setCell_other _ _ _ _ n1).trans P4.out
  have hR5 : (w4.setCell ⟨pb, 1, none⟩ (.int .i64 t1)).heap[rb]? = some (.cells SZ 195 (0, 0)) := (heap_setCell_other _ _ _ _ n2).trans R4.out
  have hB5 := Two.setCell (g := pb) (h := b) (x := ⟨pb, 1, none⟩) (two_ofB B4.out) (.inl rfl) (.int .i64 t1)
  go_upto_region 5 with (fail)
  clear P4 R4 B4 HS4 k1' f1
  generalize w4.setCell ⟨pb, 1, none⟩ (.int .i64 t1) = w5 at *
  have hld := box_load (t := 65) hP5 _ Tryz.underlying65 rfl HPS.out
  have CF := Lib.hid (HCF.out t1 w5 hS5)
  have HS5 := Lib.hid hS5
  have HP5 := Lib.hid hP5
  have HR5 := Lib.hid hR5
  have HB5 := Lib.hid hB5
  clear hS5 hP5 hR5 hB5
  go_wp2_with ((with_reducible refine arm_load 24 4 65 _ _ hld ?_ ?_); rfl)
  refine CF.out.mono ?_
  rintro e w6 ⟨rfl, hb6⟩
  have hS6 := HS5.out.below hb6
  have hP6 := keep_block hb6 HP5.out
  have hR6 := keep_block hb6 HR5.out
  have hB6 := HB5.out.trans (two_ofB hb6)
  clear hld CF HS5 HP5 HR5 HB5 hb6
  obtain ⟨len, hlen⟩ : ∃ n, l.length = n := ⟨_, rfl⟩
  have HLC := Lib.hid hlen
  rw [hlen] at hkl
  clear hlen
  have hin : (n : Int) < (len : Int) := by omega
  have HSC := Lib.hid hS6
  have HBC := Lib.hid hB6
  have HRC := Lib.hid hR6
  clear hS6 hB6 hR6 hP6
  generalize w6 = wC at *
  have HL12 : Hid (∀ w', Two b b wC w' → w'.cell? ⟨pb, 0, none⟩ = some (.slice (some ⟨b, 0, none⟩) len room)) := Lib.hid fun w' q => by
    have := cells_of_row ((q.block pb (Array.getElem?_eq_some_iff.1 HSC.out.ptr).1 HSC.out.ne HSC.out.ne).trans HSC.out.ptr) 0 _ rfl
    rw [HLC.out] at this
    exact this
  have hSD := HSC.out.drew
  have hBD : Two pb b w wC.drew := HBC.out.drewN 1
  have hRD : wC.drew.heap[rb]? = some (.cells SZ 195 (0, 0)) := HRC.out
  go_wp2_with fail
  refine wp_region_held_drew (S := Two b b wC) (by kernel_rfl) ((Two.refl b b wC).drewN 1) (fun hHeld => ?_)
  clear HSC HBC HRC
  generalize wC.drew = wD at *
  obtain ⟨k8, ff⟩ := hSD.count HXC.out
  have HSD := Lib.hid hSD
  have HBD := Lib.hid hBD
  have HRD := Lib.hid hRD
  clear hSD hBD hRD ff
  refine wpAnyH_take (i := 0) (oi := ⟨some 83, _, _, _, _, _⟩) (v := ?_) rfl (by kernel_rfl) (by kernel_rfl) (by kernel_rfl) (fun _ _ _ h => h) (Or.inl ⟨by rfl, ?_⟩) hHeld ?_
  rotate_left
  · intro w hSw
    go_simp
    try with_reducible rfl
  try simp only [Act.put, List.setIfInBounds_toArray, List.set_cons_zero, List.set_cons_succ]
  refine wpAnyH_take (i := 1) (oi := ⟨some 84, _, _, _, _, _⟩) (v := ?_) rfl (by kernel_rfl) (by kernel_rfl) (by kernel_rfl) (fun _ _ _ h => h) (Or.inl ⟨by rfl, ?_⟩) hHeld ?_
  rotate_left
  · intro w hSw
    go_simp
    try with_reducible rfl
  try simp only [Act.put, List.setIfInBounds_toArray, List.set_cons_zero, List.set_cons_succ]
  refine wpAnyH_take (i := 2) (oi := ⟨some 85, _, _, _, _, _⟩) (v := ?_) rfl (by kernel_rfl) (by kernel_rfl) (by kernel_rfl) (fun _ _ _ h => h) (Or.inl ⟨by rfl, ?_⟩) hHeld ?_
  rotate_left
  · intro w hSw
    go_simp
    try with_reducible rfl
  try simp only [Act.put, List.setIfInBounds_toArray, List.set_cons_zero, List.set_cons_succ]
  refine wpAnyH_take (i := 3) (oi := ⟨some 86, _, _, _, _, _⟩) (v := ?_) rfl (by kernel_rfl) (by kernel_rfl) (by kernel_rfl) (fun _ _ _ h => h) (Or.inl ⟨by rfl, ?_⟩) hHeld ?_
  rotate_left
  · intro w hSw
    obtain k0 := HL12.out w hSw
    go_simp
    try with_reducible rfl
  try simp only [Act.put, List.setIfInBounds_toArray, List.set_cons_zero, List.set_cons_succ]
  refine wpAnyH_take (i := 4) (oi := ⟨some 87, _, _, _, _, _⟩) (v := ?_) rfl (by kernel_rfl) (by kernel_rfl) (by kernel_rfl) (fun _ _ _ h => h) (Or.inl ⟨by rfl, ?_⟩) hHeld ?_
  rotate_left
  · intro w hSw
    go_simp
    try with_reducible rfl
  try simp only [Act.put, List.setIfInBounds_toArray, List.set_cons_zero, List.set_cons_succ]
  refine wpAnyH_take (i := 5) (oi := ⟨some 88, _, _, _, _, _⟩) (v := ?_) rfl (by kernel_rfl) (by kernel_rfl) (by kernel_rfl) (fun _ _ _ h => h) (Or.inl ⟨by rfl, ?_⟩) hHeld ?_
  rotate_left
  · intro w hSw
    go_simp
    try with_reducible rfl
  try simp only [Act.put, List.setIfInBounds_toArray, List.set_cons_zero, List.set_cons_succ]
  refine wpAnyH_take (i := 6) (oi := ⟨some 89, _, _, _, _, _⟩) (v := ?_) rfl (by kernel_rfl) (by kernel_rfl) (by kernel_rfl) (fun _ _ _ h => h) (Or.inl ⟨by rfl, ?_⟩) hHeld ?_
  rotate_left
  · intro w hSw
    go_simp
    try with_reducible rfl
  try simp only [Act.put, List.setIfInBounds_toArray, List.set_cons_zero, List.set_cons_succ]
  refine wpAnyH_take (i := 7) (oi := ⟨some 90, _, _, _, _, _⟩) (v := ?_) rfl (by kernel_rfl) (by kernel_rfl) (by kernel_rfl) (fun _ _ _ h => h) (Or.inl ⟨by rfl, ?_⟩) hHeld ?_
  rotate_left
  · intro w hSw
    go_simp
    try with_reducible rfl
  try simp only [Act.put, List.setIfInBounds_toArray, List.set_cons_zero, List.set_cons_succ]
  refine wpAnyH_take (i := 8) (oi := ⟨some 91, _, _, _, _, _⟩) (v := ?_) rfl (by kernel_rfl) (by kernel_rfl) (by kernel_rfl) (fun _ _ _ h => h) (Or.inl ⟨by rfl, ?_⟩) hHeld ?_
  rotate_left
  · intro w hSw
    obtain k0 := HL12.out w hSw
    go_simp
    try with_reducible rfl
  try simp only [Act.put, List.setIfInBounds_toArray, List.set_cons_zero, List.set_cons_succ]
  refine wpAnyH_take (i := 9) (oi := ⟨some 92, _, _, _, _, _⟩) (v := ?_) rfl (by kernel_rfl) (by kernel_rfl) (by kernel_rfl) (fun _ _ _ h => h) (Or.inl ⟨by rfl, ?_⟩) hHeld ?_
  rotate_left
  · intro w hSw
    go_simp
    try with_reducible rfl
  try simp only [Act.put, List.setIfInBounds_toArray, List.set_cons_zero, List.set_cons_succ]
  refine wpAnyH_take (i := 10) (oi := ⟨some 93, _, _, _, _, _⟩) (v := ?_) rfl (by kernel_rfl) (by kernel_rfl) (by kernel_rfl) (fun _ _ _ h => h) (Or.inl ⟨by rfl, ?_⟩) hHeld ?_
  rotate_left
  · intro w hSw
    go_simp
    try with_reducible rfl
  try simp only [Act.put, List.setIfInBounds_toArray, List.set_cons_zero, List.set_cons_succ]
  refine wpAnyH_take (i := 11) (oi := ⟨some 94, _, _, _, _, _⟩) (v := ?_) rfl (by kernel_rfl) (by kernel_rfl) (by kernel_rfl) (fun _ _ _ h => h) (Or.inl ⟨by rfl, ?_⟩) hHeld ?_
  rotate_left
  · intro w hSw
    go_simp
    try with_reducible rfl
  try simp only [Act.put, List.setIfInBounds_toArray, List.set_cons_zero, List.set_cons_succ]
  refine wpAnyH_take (i := 13) (oi := ⟨some 96, _, _, _, _, _⟩) (v := ?_) rfl (by kernel_rfl) (by kernel_rfl) (by kernel_rfl) (fun _ _ _ h => h) (Or.inl ⟨by rfl, ?_⟩) hHeld ?_
  rotate_left
  · intro w hSw
    go_simp
    try with_reducible rfl
  try simp only [Act.put, List.setIfInBounds_toArray, List.set_cons_zero, List.set_cons_succ]
  refine wpAnyH_ready (rs := [12]) (by kernel_rfl) (by simp) ?_
  refine AllReadyH.cons rfl (fun K hK => ?_) AllReadyH.nil
  go_simp
  refine hK.out _ _ (hHeld) (fun hHeld => ?_)
  clear hK K
  refine wpAnyH_ready (rs := [14]) (by kernel_rfl) (by simp) ?_
  refine AllReadyH.cons rfl (fun K hK => ?_) AllReadyH.nil
  go_simp
  refine hK.out _ _ (two_next hHeld ((Below.refl _ _).alloc (Nat.le_refl _) _)) (fun hHeld => ?_)
  clear hK K
  refine wpAnyH_ready (rs := [15]) (by kernel_rfl) (by simp) ?_
  refine AllReadyH.cons rfl (fun K hK => ?_) AllReadyH.nil
  go_simp
  go_wp2_with (go_at_call 51; go_must (refine (CA2.out wD.heap.size _ (new_c0 wD _ _ 2) (new_c1 wD _ _ 2)).mono ?_; rintro e w15 ⟨rfl, rfl⟩))
  refine hK.out _ _ (hHeld) (fun hHeld => ?_)
  clear hK K
  refine wpAnyH_take (i := 16) (oi := ⟨some 99, _, _, _, _, _⟩) (v := ?_) rfl (by kernel_rfl) (by kernel_rfl) (by kernel_rfl) (fun _ _ _ h => h) (Or.inl ⟨by rfl, ?_⟩) hHeld ?_
  rotate_left
  · intro w hSw
    go_simp
    try with_reducible rfl
  try simp only [Act.put, List.setIfInBounds_toArray, List.set_cons_zero, List.set_cons_succ]
  refine wpAnyH_take (i := 17) (oi := ⟨some 100, _, _, _, _, _⟩) (v := ?_) rfl (by kernel_rfl) (by kernel_rfl) (by kernel_rfl) (fun _ _ _ h => h) (Or.inl ⟨by rfl, ?_⟩) hHeld ?_
  rotate_left
  · intro w hSw
    go_simp
    try with_reducible rfl
  try simp only [Act.put, List.setIfInBounds_toArray, List.set_cons_zero, List.set_cons_succ]
  have hbE : Below wD.heap.size wD (wD.alloc (.cells #[.int .i64 x0.count, .int .i64 m] 2)) := (Below.refl _ _).alloc (Nat.le_refl _) _
  have hSE := HSD.out.below hbE
  have HRE := Lib.hid (keep_block hbE HRD.out)
  have HBE := Lib.hid (HBD.out.trans (two_ofB hbE))
  obtain ⟨q8, qf⟩ := hSE.count HXC.out
  have g8 := qf (n * 10 + 8)
  have HSE := Lib.hid hSE
  clear hSE qf hbE k8
  generalize wD.alloc (.cells #[.int .i64 x0.count, .int .i64 m] 2) = wE at *
  refine wpAnyH_ready (rs := [18]) (by kernel_rfl) (by simp) ?_
  refine AllReadyH.cons rfl (fun K hK => ?_) AllReadyH.nil
  go_simp
  refine hK.out _ _ (hHeld.setCell (x := ⟨b, n * 10 + 8, none⟩) (.inl rfl) _) (fun hHeld => ?_)
  clear hK K
  refine wpAnyH_done (by kernel_rfl) ?_ _
  have hS6 := HSE.out.setCount HXC.out (addC x0.count m)
  have hB6 := HBE.out.setCell (x := ⟨b, n * 10 + 8, none⟩) (.inr rfl) (.int .i64 (addC x0.count m))
  have hR6 : (wE.setCell ⟨b, n * 10 + 8, none⟩ (.int .i64 (addC x0.count m))).heap[rb]? = some (.cells SZ 195 (0, 0)) := (heap_setCell_other _ _ _ _ HNRB.out).trans HRE.out
  generalize hac : addC x0.count m = ac at *
  clear HSE HBE HRE q8 g8 hHeld HL12
  generalize wE.setCell ⟨b, n * 10 + 8, none⟩ (.int .i64 ac) = w9 at *
  obtain ⟨l9, hl9⟩ : ∃ l9, l.set n ⟨x0.p, ac, x0.err⟩ = l9 := ⟨_, rfl⟩
  have hx9 : l9[n]? = some ⟨x0.p, ac, x0.err⟩ := by rw [← hl9]; exact List.getElem?_set_self (by rw [HLC.out]; omega)
  have hln9 : l9.length = len := by rw [← hl9, List.length_set]; exact HLC.out
  have hok9 : ∀ x ∈ l9, SltOk x := by
    intro x hx
    rw [← hl9] at hx
    rcases List.mem_or_eq_of_mem_set hx with hx | rfl
    · exact HOKC.out x hx
    · exact HOKC.out x0 (List.mem_of_getElem? HXC.out)
  rw [hl9] at hS6
  have k0 := hS6.cells.1
  rw [hln9] at k0
  have hlx := hS6.load hok9 hx9
  have hoy := hok9 _ (List.mem_of_getElem? hx9)
  have hya := sltC_all hoy
  have hyl : (sltC (⟨x0.p, ac, x0.err⟩ : Slt)).toArray.size = 10 := by rw [List.size_toArray]; exact sltC_len hoy
  have hys : (Tryz.prog.info? 195).map (·.size) = some (sltC (⟨x0.p, ac, x0.err⟩ : Slt)).toArray.size := by rw [hyl]; exact slt_size
  have hst := box_store (t := 195) hR6 hys hya (HSZS.out.trans hyl.symm)
  have hbx := box_whole (cs := (sltC (⟨x0.p, ac, x0.err⟩ : Slt)).toArray) hR6 (hyl.trans HSZS.out.symm)
  obtain ⟨C9, hC9, hC9s, hC9r⟩ := hS6.row
  have hnp := ne_ty hS6.ptr hR6 (by decide)
  have hS9 : SkAt (w9.setCells rb 0 (sltC (⟨x0.p, ac, x0.err⟩ : Slt)).toArray.toList) pb b l9 room t1 := ⟨(heap_setCells_other _ _ _ _ _ hnp).trans hS6.ptr, ⟨C9, (heap_setCells_other _ _ _ _ _ HNRB.out.symm).trans hC9, hC9s, hC9r⟩, hS6.len, hS6.pre⟩
  have hB9 := hB6.newCells hrb (sltC (⟨x0.p, ac, x0.err⟩ : Slt)).toArray.toList 0
  have HBX := Lib.hid hbx
  have HS9 := Lib.hid hS9
  have HB9 := Lib.hid hB9
  have HYS := Lib.hid hys
  have HL9 := Lib.hid hl9
  have HAC := Lib.hid hac
  clear hC9r hC9 hbx hS9 hB9 hys hl9 hac hya hyl hoy hok9 hx9 hS6 hB6 hR6
  generalize hY : (sltC (⟨x0.p, ac, x0.err⟩ : Slt)).toArray = Y at *
  have HY := Lib.hid hY
  clear hY
  generalize World.setCells w9 rb 0 Y.toList = w10 at *
  go_wp2_with (first | ((with_reducible refine arm_load 107 106 195 _ _ hlx ?_ ?_); rfl) | ((with_reducible refine arm_store 6 107 195 _ _ _ hst ?_ ?_ ?_); rfl; rfl))
  refine bodyPost_ret (results_cell_row rfl _ _ _ _ _ _ _ rfl HBX.out Tryz.underlying195 rfl HYS.out) rfl ?_
  have hl9 := HL9.out
  have hac := HAC.out
  refine ⟨?_, ?_, HB9.out⟩
  · rw [← HY.out, ← HAC.out]
  · have h9 := HS9.out
    rw [← HL9.out, ← HAC.out] at h9
    exact h9
end Go.Proofs.YtpanmfdbdgecaaaGreat.C

namespace Go.Proofs.YtpanmfdbdgecaaaGreat.C
open Go.RowKit
set_option linter.unusedVariables false
theorem pfx_inj {a b : Nat} (h : pfx 10 1 a = pfx 10 1 b) : a = b := by
  have h1 : (pfx 10 1 a)[3]? = (pfx 10 1 b)[3]? := by rw [h]
  have h2 : some (Value.int .u8 (a : Nat)) = some (Value.int .u8 (b : Nat)) := h1
  injection h2 with h3
  injection h3 with _ h4
  omega
theorem fnd_hit (l : List Plc) (p : Array Value) (fr : Nat) (x : Plc) : ∀ (d m k : Nat) (spot : Int), d < m → (∀ e, e < d → ∃ y, l[(fr + (k + e)) % l.length]? = some y ∧ y.state = 1 ∧ y.p ≠ p) → l[(fr + (k + d)) % l.length]? = some x → x.state = 1 → x.p = p → fnd l p fr m k spot = ((((fr + (k + d)) % l.length : Nat) : Int), spot)
  | 0, m + 1, k, spot, _, _, hx, h1, h2 => by
    rw [Nat.add_zero] at hx ⊢
    simp only [fnd, hx]
    rw [if_pos ⟨h1, by rw [h2]; exact eqA_self p⟩]
    rfl
  | d + 1, m + 1, k, spot, hd, hb, hx, h1, h2 => by
    obtain ⟨y, hy, y1, y2⟩ := hb 0 (by omega)
    rw [Nat.add_zero] at hy
    have hne : ¬ (eqA y.p p = true) := fun h => y2 ((eqA_iff _ _).1 h)
    have ih := fnd_hit l p fr x d m (k + 1) spot (by omega) (fun e he => by
      have := hb (e + 1) (by omega)
      rwa [show k + (e + 1) = k + 1 + e by omega] at this) (by rwa [show k + 1 + d = k + (d + 1) by omega]) h1 h2
    simp only [fnd, hy]
    rw [if_neg (fun h => hne h.2), if_neg (by omega), if_neg (by intro h; exact h.1 y1), ih, show k + 1 + d = k + (d + 1) by omega]
/-- A place that is taken by a number's prefix. -/
def Occ (l : List Plc) (i b : Nat) : Prop := ∃ x, l[i]? = some x ∧ x.state = 1 ∧ x.p = pfx 10 1 b
/-- Where the looking begins. -/
noncomputable def frm (room b : Nat) : Nat := (pfH 10 1 b % ((2 * room : Nat) : Int)).toNat
/-- A table with so many numbers' prefixes in it. -/
structure Tab (room : Nat) (l : List Plc) (ins : List Nat) (til : Int) : Prop where
  len : l.length = 2 * room
  rm : 1 ≤ room ∧ room ≤ 8
  st : ∀ (i : Nat) (x : Plc), l[i]? = some x → Flat Tryz.prog 65 x.p ∧ (x.state = 0 ∨ (x.state = 1 ∧ x.til = til ∧ (∃ tb, x.tok = some tb) ∧ ∃ b, b ∈ ins ∧ x.p = pfx 10 1 b))
  has : ∀ b, b ∈ ins → ∃ d, d < 2 * room ∧ Occ l ((frm room b + d) % (2 * room)) b ∧ ∀ e, e < d → ∃ c, c ≠ b ∧ Occ l ((frm room b + e) % (2 * room)) c
  cnt : (tkn l).length = ins.length
  byt : ∀ b, b ∈ ins → b < 256
  sz : ins.length ≤ room
theorem tkn_countP (l : List Plc) : (tkn l).length = l.countP (fun x => x.state == 1) := by
  unfold tkn
  rw [List.length_map, List.countP_eq_length_filter]
section
variable {room : Nat} {l : List Plc} {ins : List Nat} {til : Int}
theorem Tab.get (h : Tab room l ins til) {b : Nat} (hb : b ∈ ins) : ∃ tb, Gets l 10 1 b til (some ⟨tb, 0, none⟩) true := by
  obtain ⟨d, hd, ⟨x, hx, x1, x2⟩, hp⟩ := h.has b hb
  obtain ⟨hfl, hs⟩ := h.st _ x hx
  rcases hs with hs | ⟨_, htil, ⟨tb, htb⟩, _⟩
  · omega
  have r := h.rm
  refine ⟨tb, fun y hy => ?_, ⟨by omega, by omega, h.byt b hb⟩, by rw [h.len]; omega, .inr ⟨rfl, _, x, ?_, hx, htil.symm, by rw [htb]; rfl⟩⟩
  · obtain ⟨i, hi⟩ := List.getElem?_of_mem hy
    exact (h.st i y hi).1
  · unfold at1
    have := fnd_hit l (pfx 10 1 b) (frm room b) x d l.length 0 (-1) (by rw [h.len]; exact hd) (fun e he => by
      obtain ⟨c, hc, y, hy, y1, y2⟩ := hp e he
      refine ⟨y, by rw [Nat.zero_add, h.len]; exact hy, y1, fun e => hc (pfx_inj (by rw [← y2, e]))⟩) (by rw [Nat.zero_add, h.len]; exact hx) x1 x2
    rw [h.len] at this ⊢
    rw [Nat.zero_add] at this
    show (fnd l (pfx 10 1 b) (frm room b) (2 * room) 0 (-1)).1 = _
    rw [this]
theorem Tab.put (h : Tab room l ins til) {b d tb : Nat} (hb : b ∉ ins) (h256 : b < 256) (hd : d < 2 * room) (h0 : ∃ x, l[(frm room b + d) % (2 * room)]? = some x ∧ x.state = 0) (hocc : ∀ e, e < d → ∃ c, c ≠ b ∧ Occ l ((frm room b + e) % (2 * room)) c) (hlt : ins.length < room) :
    Tab room (l.set ((frm room b + d) % (2 * room)) ⟨1, pfx 10 1 b, til, some tb⟩) (ins ++ [b]) til := by
  obtain ⟨x, hx, hx0⟩ := h0
  obtain ⟨s, hs⟩ : ∃ s, (frm room b + d) % (2 * room) = s := ⟨_, rfl⟩
  rw [hs] at hx ⊢
  have hsl : s < l.length := (List.getElem?_eq_some_iff.1 hx).1
  have keep : ∀ {i c : Nat}, Occ l i c → Occ (l.set s ⟨1, pfx 10 1 b, til, some tb⟩) i c := fun {i c} ⟨y, hy, y1, y2⟩ => by
    have : s ≠ i := fun e => by
      subst e
      rw [hx] at hy
      injection hy with hy
      subst hy
      omega
    exact ⟨y, by rw [List.getElem?_set_ne this]; exact hy, y1, y2⟩
  refine ⟨by rw [List.length_set]; exact h.len, h.rm, fun i y hy => ?_, fun c hc => ?_, ?_, fun c hc => ?_, by simp; omega⟩
  · by_cases hi : s = i
    · subst hi
      rw [List.getElem?_set_self hsl] at hy
      injection hy with hy
      subst hy
      exact ⟨pfx_flat 10 1 b (by omega) (by omega) h256, .inr ⟨rfl, rfl, ⟨tb, rfl⟩, b, by simp, rfl⟩⟩
    · rw [List.getElem?_set_ne hi] at hy
      obtain ⟨a1, a2⟩ := h.st i y hy
      refine ⟨a1, a2.imp id ?_⟩
      rintro ⟨c1, c2, c3, c, c4, c5⟩
      exact ⟨c1, c2, c3, c, by simp [c4], c5⟩
  · rcases List.mem_append.1 hc with hc | hc
    · obtain ⟨d', h1, h2, h3⟩ := h.has c hc
      exact ⟨d', h1, keep h2, fun e he => by
        obtain ⟨c', g1, g2⟩ := h3 e he
        exact ⟨c', g1, keep g2⟩⟩
    · obtain rfl : c = b := by simpa using hc
      exact ⟨d, hd, ⟨_, by rw [hs, List.getElem?_set_self hsl], rfl, rfl⟩, fun e he => by
        obtain ⟨c', g1, g2⟩ := hocc e he
        exact ⟨c', g1, keep g2⟩⟩
  · rw [tkn_countP, List.countP_set hsl, List.length_append]
    have e1 : l[s] = x := by
      rw [List.getElem?_eq_getElem hsl] at hx
      injection hx
    have hc := h.cnt
    rw [tkn_countP] at hc
    rw [e1, hx0, hc]
    simp
  · rcases List.mem_append.1 hc with hc | hc
    · exact h.byt c hc
    · obtain rfl : c = b := by simpa using hc
      exact h256
theorem Tab.stays (h : Tab room l ins til) {now : Int} (hn : now < til) : Stays l now := fun p hp => by
  unfold tkn at hp
  obtain ⟨x, hx, rfl⟩ := List.mem_map.1 hp
  obtain ⟨hx, h1⟩ := List.mem_filter.1 hx
  obtain ⟨i, hi⟩ := List.getElem?_of_mem hx
  have h1 : x.state = 1 := by simpa using h1
  rcases (h.st i x hi).2 with h0 | ⟨_, _, _, b, hb, hpb⟩
  · omega
  · obtain ⟨tb, hg⟩ := h.get hb
    exact ⟨10, 1, b, til, some ⟨tb, 0, none⟩, hpb, hg, hn⟩
end
/-- A sketch that has seen up to so many packets of numbers' prefixes, each as long at most. -/
structure Skt (wl : List Slt) (k : Nat) : Prop where
  len : wl.length ≤ k
  ok : ∀ x ∈ wl, (∃ b, b < 256 ∧ x.p = pfx 10 1 b) ∧ x.err = 0 ∧ 0 ≤ x.count ∧ x.count ≤ (k : Int) * 9216
theorem fndS_spec (l : List Slt) (p : Array Value) : ∀ (m k : Nat), fndS l p m k = -1 ∨ ∃ (j : Nat) (x : Slt), fndS l p m k = (j : Int) ∧ l[j]? = some x ∧ x.p = p
  | 0, k => .inl rfl
  | m + 1, k => by
    show (match l[k]? with | none => (-1 : Int) | some x => if eqA x.p p = true then (k : Int) else fndS l p m (k + 1)) = -1 ∨ ∃ (j : Nat) (x : Slt), (match l[k]? with | none => (-1 : Int) | some x => if eqA x.p p = true then (k : Int) else fndS l p m (k + 1)) = (j : Int) ∧ l[j]? = some x ∧ x.p = p
    cases hx : l[k]? with
    | none => exact .inl rfl
    | some x =>
      simp only
      by_cases he : eqA x.p p = true
      · rw [if_pos he]
        exact .inr ⟨k, x, rfl, hx, (eqA_iff _ _).1 he⟩
      · rw [if_neg he]
        exact fndS_spec l p m (k + 1)
theorem Skt.slt {wl : List Slt} {k : Nat} (h : Skt wl k) : ∀ x ∈ wl, SltOk x := fun x hx => by
  obtain ⟨⟨b, hb, hp⟩, _⟩ := h.ok x hx
  refine ⟨?_, ?_⟩
  · rw [hp]; exact pfx_flat 10 1 b (by omega) (by omega) hb
  · rw [hp]; exact pfx_ok 10 1 b
theorem addC_small {x n : Int} (h0 : 0 ≤ x) (h1 : 0 ≤ n) (h2 : x + n ≤ 4611686018427387904) : addC x n = x + n := by
  unfold addC cnt
  split <;> split <;> split <;> omega
theorem Skt.add {wl : List Slt} {k b room : Nat} (h : Skt wl k) (h256 : b < 256) (hk : k < room) (hr : room ≤ 64) {n : Int} (hn : 0 ≤ n ∧ n ≤ 9216) :
    ∃ (y : Slt) (wl2 : List Slt), Skt wl2 (k + 1) ∧ SltOk y ∧ y.err = 0 ∧ n ≤ y.count ∧ y.count ≤ ((k + 1 : Nat) : Int) * 9216 ∧ ∀ (pb rb : Nat) (t : Int), Adds pb rb room wl t (pfx 10 1 b) n y wl2 (addC t n) := by
  have hsl := h.slt
  have hlen := h.len
  have hfl := pfx_flat 10 1 b (by omega) (by omega) h256
  rcases fndS_spec wl (pfx 10 1 b) wl.length 0 with h1 | ⟨j, x, h1, hx, hp⟩
  · have hy : addC 0 n = n := addC_zero (by omega)
    refine ⟨⟨pfx 10 1 b, n, 0⟩, wl ++ [⟨pfx 10 1 b, n, 0⟩], ⟨by simp; omega, fun z hz => ?_⟩, ⟨hfl, pfx_ok 10 1 b⟩, rfl, Int.le_refl _, by show n ≤ _; omega, fun pb rb t w hw => ?_⟩
    · rcases List.mem_append.1 hz with hz | hz
      · obtain ⟨a1, a2, a3, a4⟩ := h.ok z hz
        exact ⟨a1, a2, a3, by omega⟩
      · obtain rfl : z = ⟨pfx 10 1 b, n, 0⟩ := by simpa using hz
        exact ⟨⟨b, h256, rfl⟩, rfl, hn.1, by show n ≤ _; omega⟩
    · have := sketch_add_new pb rb room wl t n 10 1 b w hw hsl hfl (by omega) (by omega) h1 (by omega)
      rw [hy] at this
      exact this
  · obtain ⟨a1, a2, a3, a4⟩ := h.ok x (List.mem_of_getElem? hx)
    have hy : addC x.count n = x.count + n := addC_small a3 hn.1 (by omega)
    refine ⟨⟨x.p, x.count + n, x.err⟩, wl.set j ⟨x.p, x.count + n, x.err⟩, ⟨by rw [List.length_set]; omega, fun z hz => ?_⟩, hsl x (List.mem_of_getElem? hx), a2, by show n ≤ x.count + n; omega, by show x.count + n ≤ _; omega, fun pb rb t w hw => ?_⟩
    · rcases List.mem_or_eq_of_mem_set hz with hz | rfl
      · obtain ⟨b1, b2, b3, b4⟩ := h.ok z hz
        exact ⟨b1, b2, b3, by omega⟩
      · exact ⟨a1, a2, by show 0 ≤ x.count + n; omega, by show x.count + n ≤ _; omega⟩
    · have := sketch_add_old pb rb room j wl x t n 10 1 b w hw hsl hfl (by omega) (by omega) h1 hx
      rw [hy] at this
      exact this
end Go.Proofs.YtpanmfdbdgecaaaGreat.C

namespace Go.Proofs.YtpanmfdbdgecaaaGreat.C
open Go.RowKit
set_option linter.unusedVariables false
/-- Bytes, one part behind another. -/
def catF (na : Nat) (F G : Nat → Nat) (j : Nat) : Nat := if j < na then F j else G (j - na)
theorem catF_byte {na : Nat} {F G : Nat → Nat} (hF : ∀ j, F j < 256) (hG : ∀ j, G j < 256) : ∀ j, catF na F G j < 256 := fun j => by
  unfold catF
  split
  · exact hF j
  · exact hG _
theorem catF_list (na nb : Nat) (F G : Nat → Nat) : (List.range na).map F ++ (List.range nb).map G = (List.range (na + nb)).map (catF na F G) := by
  rw [List.range_add, List.map_append, List.map_map]
  congr 1
  · refine List.map_congr_left fun j hj => ?_
    unfold catF
    rw [if_pos (List.mem_range.1 hj)]
  · refine List.map_congr_left fun j hj => ?_
    show G j = catF na F G (na + j)
    unfold catF
    rw [if_neg (by omega), Nat.add_sub_cancel_left]
set_option maxRecDepth 100000 in
set_option maxHeartbeats 2000000 in
/-- Two parts are copied. -/
theorem concat_two (pg ga oa na ca gb ob nb cb : Nat) (F G : Nat → Nat) (w : World) (hp : w.cell? ⟨pg, 0, none⟩ = some (.slice (some ⟨ga, oa, none⟩) na ca)) (hq : w.cell? ⟨pg, 1, none⟩ = some (.slice (some ⟨gb, ob, none⟩) nb cb)) (h : FrAt w ga oa na ca F) (h' : FrAt w gb ob nb cb G) (h0 : 1 ≤ na + nb) (h1 : na + nb ≤ 64) :
    Calls Tryz.prog 183 #[.slice (some ⟨pg, 0, none⟩) 2 2] w fun e w' => ∃ g' c', e = .returned (.slice (some ⟨g', 0, none⟩) (na + nb) c') ∧ FrAt w' g' 0 (na + nb) c' (catF na F G) ∧ Below w.heap.size w w' := by
  obtain ⟨i0, hi, hz0, hz1, hz2⟩ := info_parts u8_info
  have Hi := Lib.hid hi
  have Hz0 := Lib.hid hz0
  have Hz1 := Lib.hid hz1
  have Hz2 := Lib.hid hz2
  have HF := Lib.hid h
  have HG := Lib.hid h'
  have hpb := World.block_lt_of_cell? w _ hp
  have hqb := World.block_lt_of_cell? w _ hq
  simp only at hpb hqb
  have HP := Lib.hid hp
  have HQ := Lib.hid hq
  have CG := Lib.hid (grow_nil (na + nb) w h0 (by omega))
  have hw1 : IntKind.i64.wrap (0 + (na : Int)) = (na : Int) := by rw [Int.zero_add]; exact IntWalk.i64_in _ (by omega)
  have hw2 : IntKind.i64.wrap ((na : Int) + (nb : Int)) = ((na + nb : Nat) : Int) := by rw [IntWalk.i64_in _ (by omega)]; omega
  have hw3 : IntKind.i64.wrap (na : Int) = (na : Int) := IntWalk.i64_in _ (by omega)
  have hn1 : ¬ ((na : Int) < 0) := by omega
  have hn2 : ¬ (((na + nb : Nat) : Int) < 0) := by omega
  have HL := Lib.hid (catF_list na nb F G)
  have HBT := Lib.hid (catF_byte (na := na) h.byte h'.byte)
  obtain ⟨n, hn⟩ : ∃ n, na + nb = n := ⟨_, rfl⟩
  rw [hn] at CG HL hw2 hn2 h1 ⊢
  have HN := Lib.hid hn
  clear h h' hi hz0 hz1 hz2 hn
  go_enter Tryz.func183, Tryz.ntmps183
  go_wp2_with fail
  go_loopw [3, 11] (fun s t wr => ∃ k : Nat, k ≤ 2 ∧ t = .int .i64 (k : Nat) ∧ s = .int .i64 (if k = 0 then 0 else if k = 1 then (na : Int) else (n : Int)) ∧ w = wr) (fun _ t _ => 2 - (intOf t).toNat)
  case atStart => exact ⟨0, by omega, rfl, rfl, rfl⟩
  case round =>
    obtain ⟨k, hk, rfl, rfl, rfl⟩ := hrel
    rcases (show k = 0 ∨ k = 1 ∨ k = 2 by omega) with rfl | rfl | rfl
    · go_wp2_with fail
      refine ⟨⟨1, by omega, rfl, ?_, by first | rfl | trivial⟩, ?_⟩
      · simp
      · simp [intOf]
    · rw [if_neg (by omega), if_pos rfl]
      go_wp2_with fail
      refine ⟨⟨2, by omega, rfl, ?_, by first | rfl | trivial⟩, ?_⟩
      · simp
      · simp [intOf]
    · rw [if_neg (by omega), if_neg (by omega)]
      go_wp2_with fail
      refine CG.out.mono ?_
      rintro e w2 ⟨u, rfl, ho, hb⟩
      obtain ⟨A2, c2, rfl⟩ := OW.slice ho
      have HO := Lib.hid ho
      have HB := Lib.hid hb
      have hp2 : w2.cell? ⟨pg, 0, none⟩ = some (.slice (some ⟨ga, oa, none⟩) na ca) := by rw [hb.cell (p := ⟨pg, 0, none⟩) hpb]; exact HP.out
      have hq2 : w2.cell? ⟨pg, 1, none⟩ = some (.slice (some ⟨gb, ob, none⟩) nb cb) := by rw [hb.cell (p := ⟨pg, 1, none⟩) hqb]; exact HQ.out
      have HP2 := Lib.hid hp2
      have HQ2 := Lib.hid hq2
      have HF2 := Lib.hid (HF.out.below HF.out.blk hb (Nat.le_refl _))
      have HG2 := Lib.hid (HG.out.below HG.out.blk hb (Nat.le_refl _))
      clear ho hb CG hp hp2 hq hq2
      go_wp2_with fail
      go_loopw [6, 27] (fun s t wr => ∃ k : Nat, k ≤ 2 ∧ t = .int .i64 (k : Nat) ∧ wr.ownsRow w.heap.size 5 1 s (if k = 0 then 0 else if k = 1 then na else na + nb) (if k = 0 then [] else if k = 1 then bv ((List.range na).map F) else bv ((List.range na).map F) ++ bv ((List.range nb).map G)) ∧ Below w.heap.size w wr) (fun _ t _ => 2 - (intOf t).toNat)
      case atStart => exact ⟨0, by omega, rfl, HO.out, HB.out⟩
      case round =>
        obtain ⟨k, hk, rfl, ho, hb⟩ := hrel
        rcases (show k = 0 ∨ k = 1 ∨ k = 2 by omega) with rfl | rfl | rfl
        · rw [if_pos rfl, if_pos rfl] at ho
          have ho2 := Lib.hid ho
          have hb2 := Lib.hid hb
          have kc : wr.cell? ⟨pg, 0, none⟩ = some (.slice (some ⟨ga, oa, none⟩) na ca) := by rw [hb.cell (p := ⟨pg, 0, none⟩) hpb]; exact HP.out
          have HFrF := Lib.hid (HF.out.below HF.out.blk hb (Nat.le_refl _))
          have hlt := HF.out.blk
          clear ho hb
          go_wp2_with (at_builtin; go_must (refine wpList_append_own_at _ rfl (.tmp 31) (.tmp 32) 37 rfl w.heap.size 5 i0 (.int .u8 0) 1 1 Tryz.underlying37 Hi.out Hz0.out Hz1.out Hz2.out rfl (by omega) u6 0 [] rfl ho2.out ⟨ga, oa, none⟩ na ca (bv ((List.range na).map F)) rfl ?hl ?hn bv_one ?h63 ?hb ?hbase ?next))
          case hl => simp [bv]
          case hn =>
            intro j v hv
            have hj := (List.getElem?_eq_some_iff.1 hv).1
            simp only [bv, List.length_map, List.length_range] at hj
            simp only [bv, List.map_map, List.getElem?_map, List.getElem?_range hj, Option.map_some, Option.some.injEq] at hv
            rw [OW.addr_off, ← hv]
            exact HFrF.out.cell j hj
          case h63 => simp only [maxLen]; have := HN.out; omega
          case hb => have := HN.out; omega
          case hbase => exact hb2.out.size
          case next =>
            intro v' w' hown hg _ hat
            have hB : Below w.heap.size w w' := hb2.out.grown hg hb2.out.size (fun q hq => (World.ownsRow.lt ho2.out q hq).1)
            have HO4 := Lib.hid hown
            have HB4 := Lib.hid hB
            clear hown hg hat hB kc ho2 hb2
            go_wp2_with fail
            refine ⟨⟨1, by omega, rfl, ?_, HB4.out⟩, by simp [intOf]⟩
            have := HO4.out
            simpa using this
        · rw [if_neg (by omega), if_pos rfl, if_neg (by omega), if_pos rfl] at ho
          have ho2 := Lib.hid ho
          have hb2 := Lib.hid hb
          have kc : wr.cell? ⟨pg, 1, none⟩ = some (.slice (some ⟨gb, ob, none⟩) nb cb) := by rw [hb.cell (p := ⟨pg, 1, none⟩) hpb]; exact HQ.out
          have HFrG := Lib.hid (HG.out.below HG.out.blk hb (Nat.le_refl _))
          have hlt := HG.out.blk
          clear ho hb
          go_wp2_with (at_builtin; go_must (refine wpList_append_own_at _ rfl (.tmp 31) (.tmp 32) 37 rfl w.heap.size 5 i0 (.int .u8 0) 1 1 Tryz.underlying37 Hi.out Hz0.out Hz1.out Hz2.out rfl (by omega) u6 na (bv ((List.range na).map F)) rfl ho2.out ⟨gb, ob, none⟩ nb cb (bv ((List.range nb).map G)) rfl ?hl ?hn bv_one ?h63 ?hb ?hbase ?next))
          case hl => simp [bv]
          case hn =>
            intro j v hv
            have hj := (List.getElem?_eq_some_iff.1 hv).1
            simp only [bv, List.length_map, List.length_range] at hj
            simp only [bv, List.map_map, List.getElem?_map, List.getElem?_range hj, Option.map_some, Option.some.injEq] at hv
            rw [OW.addr_off, ← hv]
            exact HFrG.out.cell j hj
          case h63 => simp only [maxLen]; have := HN.out; omega
          case hb => have := HN.out; omega
          case hbase => exact hb2.out.size
          case next =>
            intro v' w' hown hg _ hat
            have hB : Below w.heap.size w w' := hb2.out.grown hg hb2.out.size (fun q hq => (World.ownsRow.lt ho2.out q hq).1)
            have HO4 := Lib.hid hown
            have HB4 := Lib.hid hB
            clear hown hg hat hB kc ho2 hb2
            go_wp2_with fail
            refine ⟨⟨2, by omega, rfl, ?_, HB4.out⟩, by simp [intOf]⟩
            have := HO4.out
            simpa using this
        · rw [if_neg (by omega), if_neg (by omega), if_neg (by omega), if_neg (by omega), HN.out] at ho
          obtain ⟨A3, c3, rfl⟩ := OW.slice ho
          obtain ⟨g3, rfl, hcap⟩ : ∃ g3, A3 = some ⟨g3, 0, none⟩ ∧ g3 < wr.heap.size := by
            rcases ho.2 with ⟨h0', h1'⟩ | ⟨g2, cap, cur, hv, _, hh, _⟩
            · have := HN.out
              exact absurd h1' (by omega)
            · injection hv with h4 h5 h6
              exact ⟨g2, h4, (Array.getElem?_eq_some_iff.1 hh).1⟩
          have hfr : FrAt wr g3 0 n c3 (catF na F G) := by
            refine ⟨fun j hj => ?_, HBT.out, OW.cap ho, hcap⟩
            have := ho.cells (g := g3) rfl j (.int .u8 (catF na F G j : Nat)) (by
              rw [show bv ((List.range na).map F) ++ bv ((List.range nb).map G) = bv ((List.range n).map (catF na F G)) by rw [← HL.out]; simp [bv]]
              simp [bv, List.getElem?_range hj])
            rw [OW.addr_off] at this
            exact this
          have HFR := Lib.hid hfr
          have HB5 := Lib.hid hb
          clear ho hb hfr
          go_wp2
          go_ret
          exact ⟨g3, c3, rfl, HFR.out, HB5.out⟩
set_option maxRecDepth 100000 in
set_option maxHeartbeats 4000000 in
theorem sip_sum2 (kv : Array Value) (K : Nat → Nat) (pg n : Nat) (F : Nat → Nat) (w : World) (hk : ∀ j, j < 16 → kv[j]? = some (.int .u8 (K j : Nat))) (hcat : ∀ w2, Below w.heap.size w w2 → Calls Tryz.prog 183 #[.slice (some ⟨pg, 0, none⟩) 2 2] w2 fun e w' => ∃ g' c', e = .returned (.slice (some ⟨g', 0, none⟩) n c') ∧ FrAt w' g' 0 n c' F ∧ Below w2.heap.size w2 w') (h0 : 1 ≤ n) (h1 : n ≤ 64) :
    Calls Tryz.prog 166 #[.agg kv, .slice (some ⟨pg, 0, none⟩) 2 2] w fun e w' => e = .returned (.int .u64 (sipSum K F n)) ∧ Below w.heap.size w w' := by
  have HK := Lib.hid hk
  have HC := Lib.hid hcat
  clear hk hcat
  obtain ⟨k0, hk0⟩ : ∃ x, numP K 8 = x := ⟨_, rfl⟩
  obtain ⟨k1, hk1⟩ : ∃ x, numP (fun j => K (8 + j)) 8 = x := ⟨_, rfl⟩
  have HK0 := Lib.hid hk0
  have HK1 := Lib.hid hk1
  clear hk0 hk1
  go_enter Tryz.func166, Tryz.ntmps166
  go_upto_region 1 with ((with_reducible refine arm_box 2 0 22 kv ?_ ?_); rfl; intro w1 HB HX HS)
  have N0 : Hid (Calls Tryz.prog 182 #[.slice (some ⟨w.heap.size, 0, none⟩) 8 16] w1.drew fun e w' => e = .returned (.int .u64 k0) ∧ w' = w1.drew) := Lib.hid (by
    have := sip_number (some ⟨w.heap.size, 0, none⟩) w.heap.size 0 8 16 K w1.drew (fun _ => rfl) (fun j hj => by rw [Nat.zero_add]; exact cells_of_row (w := w1.drew) HX.out j _ (HK.out j (by omega))) (by omega)
    rw [HK0.out] at this
    exact this)
  have N1 : Hid (Calls Tryz.prog 182 #[.slice (some ⟨w.heap.size, 8, none⟩) 8 8] w1.drew fun e w' => e = .returned (.int .u64 k1) ∧ w' = w1.drew) := Lib.hid (by
    have := sip_number (some ⟨w.heap.size, 8, none⟩) w.heap.size 8 8 8 (fun j => K (8 + j)) w1.drew (fun _ => rfl) (fun j hj => cells_of_row (w := w1.drew) HX.out (8 + j) _ (HK.out (8 + j) (by omega))) (by omega)
    rw [HK1.out] at this
    exact this)
  go_wp2_with fail
  refine wp_region_held_drew (S := fun w' => w' = w1.drew) (by kernel_rfl) rfl (fun hHeld => ?_)
  refine wpAnyH_take (i := 0) (oi := ⟨some 10, _, _, _, _, _⟩) (v := ?_) rfl (by kernel_rfl) (by kernel_rfl) (by kernel_rfl) (fun _ _ _ h => h) (Or.inl ⟨by rfl, ?_⟩) hHeld ?_
  rotate_left
  · intro w hSw
    go_simp
    try with_reducible rfl
  try simp only [Act.put, List.setIfInBounds_toArray, List.set_cons_zero, List.set_cons_succ]
  refine wpAnyH_take (i := 2) (oi := ⟨some 12, _, _, _, _, _⟩) (v := ?_) rfl (by kernel_rfl) (by kernel_rfl) (by kernel_rfl) (fun _ _ _ h => h) (Or.inl ⟨by rfl, ?_⟩) hHeld ?_
  rotate_left
  · intro w hSw
    go_simp
    try with_reducible rfl
  try simp only [Act.put, List.setIfInBounds_toArray, List.set_cons_zero, List.set_cons_succ]
  refine wpAnyH_ready (rs := [1]) (by kernel_rfl) (by simp) ?_
  refine AllReadyH.cons rfl (fun K hK => ?_) AllReadyH.nil
  go_simp
  go_wp2_with (go_at_call 182; go_must (refine (N0.out).mono ?_; rintro e w1 ⟨rfl, rfl⟩))
  refine hK.out _ _ (rfl) (fun hHeld => ?_)
  clear hK K
  refine wpAnyH_ready (rs := [3]) (by kernel_rfl) (by simp) ?_
  refine AllReadyH.cons rfl (fun K hK => ?_) AllReadyH.nil
  go_simp
  go_wp2_with (go_at_call 182; go_must (refine (N1.out).mono ?_; rintro e w3 ⟨rfl, rfl⟩))
  refine hK.out _ _ (rfl) (fun hHeld => ?_)
  clear hK K
  refine wpAnyH_take (i := 4) (oi := ⟨some 5, _, _, _, _, _⟩) (v := ?_) rfl (by kernel_rfl) (by kernel_rfl) (by kernel_rfl) (fun _ _ _ h => h) (Or.inl ⟨by rfl, ?_⟩) hHeld ?_
  rotate_left
  · intro w hSw
    go_simp
    try with_reducible rfl
  try simp only [Act.put, List.setIfInBounds_toArray, List.set_cons_zero, List.set_cons_succ]
  refine wpAnyH_take (i := 5) (oi := ⟨some 6, _, _, _, _, _⟩) (v := ?_) rfl (by kernel_rfl) (by kernel_rfl) (by kernel_rfl) (fun _ _ _ h => h) (Or.inl ⟨by rfl, ?_⟩) hHeld ?_
  rotate_left
  · intro w hSw
    go_simp
    try with_reducible rfl
  try simp only [Act.put, List.setIfInBounds_toArray, List.set_cons_zero, List.set_cons_succ]
  refine wpAnyH_done (by kernel_rfl) ?_ _
  obtain ⟨x0, q0⟩ : ∃ x, bits BinOp.xor IntKind.u64 k0 8317987319222330741 = x := ⟨_, rfl⟩
  obtain ⟨x1, q1⟩ : ∃ x, bits BinOp.xor IntKind.u64 k1 7237128888997146477 = x := ⟨_, rfl⟩
  obtain ⟨x2, q2⟩ : ∃ x, bits BinOp.xor IntKind.u64 k0 7816392313619706465 = x := ⟨_, rfl⟩
  obtain ⟨x3, q3⟩ : ∃ x, bits BinOp.xor IntKind.u64 k1 8387220255154660723 = x := ⟨_, rfl⟩
  have hI : sipI k0 k1 = ⟨x0, x1, x2, x3⟩ := by
    unfold sipI xorU
    rw [q0, q1, q2, q3]
  have HI := Lib.hid hI
  clear hI hHeld
  have hsl := HB.out.size
  have hX2 := Go.heap_alloc_new w1 (.cells #[.int .u64 x0, .int .u64 x1, .int .u64 x2, .int .u64 x3] 341)
  have hB2 : Below w.heap.size w (w1.alloc (.cells #[.int .u64 x0, .int .u64 x1, .int .u64 x2, .int .u64 x3] 341)).drew := (HB.out.alloc hsl _).drew
  have hS2 : S4 (w1.alloc (.cells #[.int .u64 x0, .int .u64 x1, .int .u64 x2, .int .u64 x3] 341)).drew w1.heap.size x0 x1 x2 x3 := ⟨hX2⟩
  have HB2 := Lib.hid hB2
  have HS2 := Lib.hid hS2
  clear hX2 hB2 hS2
  go_upto_region 3 with (fail)
  generalize (w1.alloc (.cells #[.int .u64 x0, .int .u64 x1, .int .u64 x2, .int .u64 x3] 341)).drew = w2 at *
  generalize w1.heap.size = sb at *
  clear q0 q1 q2 q3 N0 N1
  have CC := Lib.hid (HC.out w2 HB2.out)
  go_wp2_with fail
  refine CC.out.mono ?_
  rintro e w3 ⟨g3, c3, rfl, hfr, hb⟩
  have hs2 := HB2.out.size
  have HB3 := Lib.hid (HB2.out.trans (hb.mono hs2))
  have hS3 := s4_below HS2.out hb
  have hgne : g3 ≠ sb := by
    rintro rfl
    have a1 := hfr.cell 0 (by omega)
    have a2 := hS3.cells.1
    rw [Nat.zero_add, a2] at a1
    injection a1 with a1
    injection a1 with a1 _
    cases a1
  have HS3 := Lib.hid hS3
  have HF3 := Lib.hid hfr
  clear hfr hb hS3 CC HS2
  have hcap3 := HF3.out.cap
  simp only [maxLen] at hcap3
  go_wp2_with fail
  go_loopw [8] (fun s wr => ∃ (k : Nat) (A' : Option Addr) (c' : Nat), k ≤ n / 8 ∧ s = .slice A' (n - 8 * k) c' ∧ (n - 8 * k ≠ 0 → A' = some ⟨g3, 8 * k, none⟩) ∧ (n - 8 * k ≤ c' ∧ c' ≤ 9223372036854775807) ∧ S4 wr sb (sipB F ⟨x0, x1, x2, x3⟩ k).a (sipB F ⟨x0, x1, x2, x3⟩ k).b (sipB F ⟨x0, x1, x2, x3⟩ k).c (sipB F ⟨x0, x1, x2, x3⟩ k).d ∧ Below w.heap.size w wr ∧ FrAt wr g3 0 n c3 F) (fun s _ => match s with | .slice _ m _ => m | _ => 0)
  case atStart => exact ⟨0, some ⟨g3, 0, none⟩, c3, by omega, rfl, fun _ => rfl, ⟨by omega, by omega⟩, HS3.out, HB3.out, HF3.out⟩
  case round =>
    obtain ⟨k, A', c', hk, rfl, hA, hc', hS, hB, hF⟩ := hrel
    by_cases hk8 : k = n / 8
    · subst hk8
      obtain ⟨r, hr⟩ : ∃ r, n - 8 * (n / 8) = r := ⟨_, rfl⟩
      have hrm : n % 8 = r := by omega
      have hr8 : r < 8 := by omega
      have hnI : r ≤ n := by omega
      obtain ⟨u, hu⟩ : ∃ u, u = 8 * (n / 8) := ⟨_, rfl⟩
      have hur : u + r = n := by omega
      obtain ⟨s0, hs0⟩ : ∃ s, sipB F ⟨x0, x1, x2, x3⟩ (n / 8) = s := ⟨_, rfl⟩
      rw [hs0] at hS
      rw [hr] at hA hc' ⊢
      rw [← hu] at hA
      obtain ⟨m1, hm1⟩ : ∃ m, numP (fun j => F (u + j)) r = m := ⟨_, rfl⟩
      have N := Lib.hid (sip_number A' g3 u r c' (fun j => F (u + j)) wr hA (fun j hj => by
        have := hF.cell (u + j) (by omega)
        rwa [Nat.zero_add] at this) (by omega))
      rw [hm1] at N
      obtain ⟨m2, hm2⟩ : ∃ m, bits BinOp.or IntKind.u64 m1 ((n : Int) * 72057594037927936) = m := ⟨_, rfl⟩
      have hwr : IntKind.u64.wrap ((n : Int) * 72057594037927936) = (n : Int) * 72057594037927936 := by rw [IntKind.wrap_u64]; omega
      have W := Lib.hid (sip_word sb m2 s0 wr hS)
      have hcv : IntKind.u64.wrap (n : Int) = (n : Int) := by rw [IntKind.wrap_u64]; omega
      obtain ⟨s5, hs5⟩ : ∃ s, sipW s0 m2 = s := ⟨_, rfl⟩
      rw [hs5] at W
      obtain ⟨x5, hx5⟩ : ∃ x, xorU s5.c 255 = x := ⟨_, rfl⟩
      obtain ⟨s7, hs7⟩ : ∃ s, sipN 4 ⟨s5.a, s5.b, x5, s5.d⟩ = s := ⟨_, rfl⟩
      have hsum : sipSum K F n = xorU (xorU (xorU s7.a s7.b) s7.c) s7.d := by
        unfold sipSum sipE
        rw [HK0.out, HK1.out, HI.out, hs0, hrm, ← hu, hm1, hwr, hm2, hs5, hx5, hs7]
      have HSUM := Lib.hid hsum
      have HS7 := Lib.hid hs7
      have hq5 : bits BinOp.xor IntKind.u64 s5.c 255 = x5 := hx5
      have HB4 := Lib.hid hB
      clear hwr hsum hs7 hs5 hs0 hm1 hS hF hA hc' hx5 hB hur hu hr hrm hnI
      have hrI : (r : Int) < 8 := by omega
      go_wp2_with fail
      refine N.out.mono ?_
      rintro e w5 ⟨rfl, rfl⟩
      go_wp2_with fail
      refine W.out.mono ?_
      rintro e w6 ⟨rfl, hS6, t6⟩
      obtain ⟨e0, e1, e2, e3, f0, f1, f2, f3⟩ := hS6.cells
      have C7 := Lib.hid (sip_round sb 4 ⟨s5.a, s5.b, x5, s5.d⟩ _ (by omega) (hS6.set2 x5))
      rw [HS7.out] at C7
      have HB6 := Lib.hid (two_below HB4.out (Two.setCell (g := sb) (h := sb) (x := ⟨sb, 2, none⟩) t6 (.inl rfl) (.int .u64 x5)) hsl HB4.out.size)
      clear hS6 t6 W N hm2
      go_wp2_with fail
      refine C7.out.mono ?_
      rintro e w8 ⟨rfl, hS8, t8⟩
      obtain ⟨e0, e1, e2, e3, f0, f1, f2, f3⟩ := hS8.cells
      have HB8 := Lib.hid (two_below HB6.out t8 hsl HB6.out.size)
      clear hS8 t8 C7 hq5
      obtain ⟨y1, hy1⟩ : ∃ y, bits BinOp.xor IntKind.u64 s7.a s7.b = y := ⟨_, rfl⟩
      obtain ⟨y2, hy2⟩ : ∃ y, bits BinOp.xor IntKind.u64 y1 s7.c = y := ⟨_, rfl⟩
      obtain ⟨y3, hy3⟩ : ∃ y, bits BinOp.xor IntKind.u64 y2 s7.d = y := ⟨_, rfl⟩
      have hfin : sipSum K F n = y3 := by
        rw [HSUM.out]
        unfold xorU
        rw [hy1, hy2, hy3]
      have HFIN := Lib.hid hfin
      clear hfin
      go_wp2_with fail
      go_region
      go_wp2
      go_ret
      exact ⟨by rw [HFIN.out]; rfl, HB8.out.drew⟩
    · have hlt8 : (8 : Int) ≤ ((n - 8 * k : Nat) : Int) := by omega
      have hcI : ((n - 8 * k : Nat) : Int) ≤ (c' : Int) := by omega
      obtain rfl := hA (by omega)
      have N := Lib.hid (sip_number (some ⟨g3, 8 * k, none⟩) g3 (8 * k) 8 c' (fun j => F (8 * k + j)) wr (fun _ => rfl) (fun j hj => by
        have := hF.cell (8 * k + j) (by omega)
        rwa [Nat.zero_add] at this) (by omega))
      have W := Lib.hid (sip_word sb (numP (fun j => F (8 * k + j)) 8) (sipB F ⟨x0, x1, x2, x3⟩ k) wr hS)
      have hst : sipB F ⟨x0, x1, x2, x3⟩ (k + 1) = sipW (sipB F ⟨x0, x1, x2, x3⟩ k) (numP (fun j => F (8 * k + j)) 8) := rfl
      rw [← hst] at W
      have HB4 := Lib.hid hB
      have HF4 := Lib.hid hF
      clear hS hB hF hA hst
      generalize numP (fun j => F (8 * k + j)) 8 = m at *
      have hm8 : (8 : Int) ≤ (c' : Int) := by omega
      go_wp2_with fail
      refine N.out.mono ?_
      rintro e w5 ⟨rfl, rfl⟩
      go_wp2_with fail
      refine W.out.mono ?_
      rintro e w6 ⟨rfl, hS6, t6⟩
      have HS6 := Lib.hid hS6
      have HT6 := Lib.hid t6
      clear hS6 t6 W N
      go_wp2_with fail
      refine ⟨⟨k + 1, (if c' = 8 then some ⟨g3, 8 * k, none⟩ else some ⟨g3, 8 * k + 8, none⟩), c' - 8, by omega, ?_, ?_, ⟨by omega, by omega⟩, HS6.out, two_below HB4.out HT6.out hsl HB4.out.size, HF4.out.two HT6.out hgne⟩, ?_⟩
      · rw [show n - 8 * k - 8 = n - 8 * (k + 1) by omega]
      · intro hne
        rw [if_neg (by omega), show 8 * k + 8 = 8 * (k + 1) by omega]
      · show n - 8 * k - 8 < n - 8 * k
        omega
end Go.Proofs.YtpanmfdbdgecaaaGreat.C

namespace Go.Proofs.YtpanmfdbdgecaaaGreat.C
open Go.RowKit
set_option linter.unusedVariables false
/-- A flow's key: 14 bytes. -/
structure KeyOf (fl : Array Value) (FK : Nat → Nat) : Prop where
  size : fl.size = 36
  one : fl.all (·.oneCell') = true
  key : ∀ w, Calls Tryz.prog 199 #[.agg fl] w fun e w' => ∃ g c, e = .returned (.slice (some ⟨g, 0, none⟩) 14 c) ∧ FrAt w' g 0 14 c FK ∧ Below w.heap.size w w'
/-- A key of 16 bytes. -/
structure Key16 (kv : Array Value) (K : Nat → Nat) : Prop where
  size : kv.size = 16
  at16 : ∀ j, j < 16 → kv[j]? = some (.int .u8 (K j : Nat))
/-- Whither a flow falls. -/
def fallV (K FK : Nat → Nat) (lv n : Nat) : Nat := (sipSum K (catF 14 FK (fun _ => lv)) 15 % (n : Int)).toNat
theorem fallV_lt (K FK : Nat → Nat) (lv n : Nat) (h : 1 ≤ n) : fallV K FK lv n < n := by
  unfold fallV
  have := Int.emod_lt_of_pos (sipSum K (catF 14 FK (fun _ => lv)) 15) (show (0 : Int) < n by omega)
  have := Int.emod_nonneg (sipSum K (catF 14 FK (fun _ => lv)) 15) (show (n : Int) ≠ 0 by omega)
  omega
theorem flow_info : (Tryz.prog.info? 58).map (·.size) = some 36 := by kernel_rfl
theorem key16_info : (Tryz.prog.info? 22).map (·.size) = some 16 := by kernel_rfl
theorem fr_one (lv : Nat) (h : lv < 256) (w : World) : FrAt (w.alloc (.cells #[.int .u8 (lv : Nat)] 5)) w.heap.size 0 1 1 (fun _ => lv) :=
  ⟨fun j hj => by
    obtain rfl : j = 0 := by omega
    exact cells_of_row (Go.heap_alloc_new w _) 0 _ rfl, fun _ => h, by simp only [maxLen]; omega, by simp⟩
set_option maxRecDepth 100000 in
set_option maxHeartbeats 4000000 in
theorem keyed_fall (kv fl : Array Value) (K FK : Nat → Nat) (lv n : Nat) (w : World) (hk : Key16 kv K) (hf : KeyOf fl FK) (hlv : lv < 256) (h1 : 1 ≤ n) (h2 : n ≤ 64) :
    Calls Tryz.prog 186 #[.agg kv, .agg fl, .int .u8 (lv : Nat), .int .i64 (n : Nat)] w fun e w' => e = .returned (.int .i64 (fallV K FK lv n : Nat)) ∧ Below w.heap.size w w' := by
  have HK := Lib.hid hk
  have CK := Lib.hid hf.key
  have HFS := Lib.hid (show (Tryz.prog.info? 58).map (·.size) = some fl.size by rw [hf.size]; exact flow_info)
  have HKS := Lib.hid (show (Tryz.prog.info? 22).map (·.size) = some kv.size by rw [hk.size]; exact key16_info)
  clear hk hf
  obtain ⟨F, hF⟩ : ∃ F, catF 14 FK (fun _ => lv) = F := ⟨_, rfl⟩
  obtain ⟨r, hr⟩ : ∃ r, fallV K FK lv n = r := ⟨_, rfl⟩
  have HR := Lib.hid hr
  have hrn := fallV_lt K FK lv n h1
  rw [hr] at hrn ⊢
  have hmod : (sipSum K F 15).tmod (n : Int) = (r : Int) := by
    rw [← hr, fallV, hF, Int.tmod_eq_emod_of_nonneg (sipSum_range _ _ _).1, Int.toNat_of_nonneg (Int.emod_nonneg _ (by omega))]
  have hcn : IntKind.u64.wrap (n : Int) = (n : Int) := by rw [IntKind.wrap_u64]; omega
  have hn0 : ¬ ((n : Int) = 0) := by omega
  have hn1 : ¬ ((n : Int) < 1) := by omega
  have hnz : n ≠ 0 := by omega
  have hcr : IntKind.i64.wrap (r : Int) = (r : Int) := IntWalk.i64_in _ (by omega)
  have CS := Lib.hid (fun (pg : Nat) (w2 : World) (hcat : ∀ w3, Below w2.heap.size w2 w3 → _) => sip_sum2 kv K pg 15 F w2 HK.out.at16 hcat (by omega) (by omega))
  have HF := Lib.hid hF
  have HMOD := Lib.hid hmod
  clear hF hr hmod
  generalize sipSum K F 15 = sm at *
  have hmod := HMOD.out
  go_enter Tryz.func186, Tryz.ntmps186
  go_upto_region 1 with (first
    | ((with_reducible refine arm_box 4 0 22 kv ?_ ?_); rfl; intro w1 HB1 HX1 HS1)
    | ((with_reducible refine arm_box 5 1 58 fl ?_ ?_); rfl; intro v2 HB2 HX2 HS2))
  have HLD : Hid (∀ w', Below v2.heap.size v2 w' → (Instr.loadAt 22 (.pointer (some ⟨w.heap.size, 0, none⟩))).run Tryz.prog w' = .ok (.agg kv) w' ∧ (Instr.loadAt 58 (.pointer (some ⟨w1.heap.size, 0, none⟩))).run Tryz.prog w' = .ok (.agg fl) w') := Lib.hid fun w' h =>
    ⟨box_load (t := 22) (keep_block h (keep_block HB2.out HX1.out)) _ Tryz.underlying22 rfl HKS.out, box_load (t := 58) (keep_block h HX2.out) _ Tryz.underlying58 rfl HFS.out⟩
  have B2 := Lib.hid (HB1.out.trans (HB2.out.mono HB1.out.size))
  clear HX1 HX2
  go_wp2_with fail
  refine wp_region_held_drew (S := Below v2.heap.size v2) (by kernel_rfl) (Below.refl _ _).drew (fun hHeld => ?_)
  refine wpAnyH_take (i := 0) (oi := ⟨some 11, _, _, _, _, _⟩) (v := .agg kv) rfl (by kernel_rfl) (by kernel_rfl) (by kernel_rfl) (fun _ _ _ h => h) (Or.inl ⟨by rfl, fun w hSw => exec_load rfl (HLD.out w hSw).1⟩) hHeld ?_
  try simp only [Act.put, List.setIfInBounds_toArray, List.set_cons_zero, List.set_cons_succ]
  refine wpAnyH_take (i := 1) (oi := ⟨some 12, _, _, _, _, _⟩) (v := .agg fl) rfl (by kernel_rfl) (by kernel_rfl) (by kernel_rfl) (fun _ _ _ h => h) (Or.inl ⟨by rfl, fun w hSw => exec_load rfl (HLD.out w hSw).2⟩) hHeld ?_
  try simp only [Act.put, List.setIfInBounds_toArray, List.set_cons_zero, List.set_cons_succ]
  refine wpAnyH_take (i := 3) (oi := ⟨some 14, _, _, _, _, _⟩) (v := ?_) rfl (by kernel_rfl) (by kernel_rfl) (by kernel_rfl) (fun _ _ _ h => h) (Or.inl ⟨by rfl, ?_⟩) hHeld ?_
  rotate_left
  · intro w hSw
    go_simp
    try with_reducible rfl
  try simp only [Act.put, List.setIfInBounds_toArray, List.set_cons_zero, List.set_cons_succ]
  refine wpAnyH_take (i := 7) (oi := ⟨some 18, _, _, _, _, _⟩) (v := ?_) rfl (by kernel_rfl) (by kernel_rfl) (by kernel_rfl) (fun _ _ _ h => h) (Or.inl ⟨by rfl, ?_⟩) hHeld ?_
  rotate_left
  · intro w hSw
    go_simp
    try with_reducible rfl
  try simp only [Act.put, List.setIfInBounds_toArray, List.set_cons_zero, List.set_cons_succ]
  refine wpAnyH_take (i := 8) (oi := ⟨some 19, _, _, _, _, _⟩) (v := ?_) rfl (by kernel_rfl) (by kernel_rfl) (by kernel_rfl) (fun _ _ _ h => h) (Or.inl ⟨by rfl, ?_⟩) hHeld ?_
  rotate_left
  · intro w hSw
    go_simp
    try with_reducible rfl
  try simp only [Act.put, List.setIfInBounds_toArray, List.set_cons_zero, List.set_cons_succ]
  refine wpAnyH_ready (rs := [2, 4]) (by kernel_rfl) (by simp) ?_
  refine AllReadyH.cons rfl (fun K hK => ?ordA) (AllReadyH.cons rfl (fun K hK => ?ordB) AllReadyH.nil)
  case' ordA =>
    go_simp
    go_wp2_with (go_at_call 199; go_must (refine (CK.out _).mono ?_; rintro e w2 ⟨g1, c1, rfl, hfr, hB⟩))
    refine hK.out _ _ (hHeld.trans (hB.mono hHeld.size)) (fun hHeld => ?_)
    clear hK K
    refine wpAnyH_ready (rs := [4]) (by kernel_rfl) (by simp) ?_
    refine AllReadyH.cons rfl (fun K hK => ?_) AllReadyH.nil
    go_simp
    refine hK.out _ _ (hHeld.alloc hHeld.size _) (fun hHeld => ?_)
    clear hK K
    have hfa := hfr.below hfr.blk ((Below.refl w2.heap.size w2).alloc (Nat.le_refl _) (.cells #[.int .u8 (lv : Nat)] 5)) (Nat.le_refl _)
    have hfb : FrAt (w2.alloc (.cells #[.int .u8 (lv : Nat)] 5)) w2.heap.size 0 1 1 (fun _ => lv) := fr_one lv hlv w2
    have FA := Lib.hid hfa
    have FB := Lib.hid hfb
    clear hfr hfa hfb hB
    generalize w2.alloc (.cells #[.int .u8 (lv : Nat)] 5) = W at *
    generalize w2.heap.size = lb at *
    have hcat : ∀ w3, Below (W.alloc (.cells #[.slice (some ⟨g1, 0, none⟩) 14 c1, .slice (some ⟨lb, 0, none⟩) 1 1] 37)).heap.size (W.alloc (.cells #[.slice (some ⟨g1, 0, none⟩) 14 c1, .slice (some ⟨lb, 0, none⟩) 1 1] 37)) w3 → Calls Tryz.prog 183 #[.slice (some ⟨W.heap.size, 0, none⟩) 2 2] w3 fun e w' => ∃ g' c', e = .returned (.slice (some ⟨g', 0, none⟩) 15 c') ∧ FrAt w' g' 0 15 c' F ∧ Below w3.heap.size w3 w' := fun w3 q => by
      have hpg := keep_block q (Go.heap_alloc_new W (.cells #[.slice (some ⟨g1, 0, none⟩) 14 c1, .slice (some ⟨lb, 0, none⟩) 1 1] 37))
      have qa : Below W.heap.size W (W.alloc (.cells #[.slice (some ⟨g1, 0, none⟩) 14 c1, .slice (some ⟨lb, 0, none⟩) 1 1] 37)) := (Below.refl _ _).alloc (Nat.le_refl _) _
      have q2 : Below W.heap.size W w3 := qa.trans (q.mono qa.size)
      have := concat_two W.heap.size g1 0 14 c1 lb 0 1 1 FK (fun _ => lv) w3 (cells_of_row hpg 0 _ rfl) (cells_of_row hpg 1 _ rfl) (FA.out.below FA.out.blk q2 (Nat.le_refl _)) (FB.out.below FB.out.blk q2 (Nat.le_refl _)) (by omega) (by omega)
      rw [HF.out] at this
      exact this
    have HCAT := Lib.hid hcat
    clear hcat
    refine wpAnyH_ready (rs := [5]) (by kernel_rfl) (by simp) ?_
    refine AllReadyH.cons rfl (fun K hK => ?_) AllReadyH.nil
    go_simp
    refine hK.out _ _ (hHeld.alloc hHeld.size _) (fun hHeld => ?_)
    clear hK K
    refine wpAnyH_ready (rs := [6]) (by kernel_rfl) (by simp) ?_
    refine AllReadyH.cons rfl (fun K hK => ?_) AllReadyH.nil
    go_simp
    go_wp2_with (go_at_call 166; go_must (refine (CS.out _ _ HCAT.out).mono ?_; rintro e w6 ⟨rfl, hB6⟩))
    refine hK.out _ _ (hHeld.trans (hB6.mono hHeld.size)) (fun hHeld => ?_)
    clear hK K
    refine wpAnyH_take (i := 9) (oi := ⟨some 20, _, _, _, _, _⟩) (v := ?_) rfl (by kernel_rfl) (by kernel_rfl) (by kernel_rfl) (fun _ _ _ h => h) (Or.inl ⟨by rfl, ?_⟩) hHeld ?_
    rotate_left
    · intro w hSw
      go_simp
      try with_reducible rfl
    try simp only [Act.put, List.setIfInBounds_toArray, List.set_cons_zero, List.set_cons_succ]
    refine wpAnyH_take (i := 10) (oi := ⟨some 21, _, _, _, _, _⟩) (v := ?_) rfl (by kernel_rfl) (by kernel_rfl) (by kernel_rfl) (fun _ _ _ h => h) (Or.inl ⟨by rfl, ?_⟩) hHeld ?_
    rotate_left
    · intro w hSw
      go_simp
      try with_reducible rfl
    try simp only [Act.put, List.setIfInBounds_toArray, List.set_cons_zero, List.set_cons_succ]
    refine wpAnyH_take (i := 11) (oi := ⟨some 8, _, _, _, _, _⟩) (v := ?_) rfl (by kernel_rfl) (by kernel_rfl) (by kernel_rfl) (fun _ _ _ h => h) (Or.inl ⟨by rfl, ?_⟩) hHeld ?_
    rotate_left
    · intro w hSw
      go_simp
      try with_reducible rfl
    try simp only [Act.put, List.setIfInBounds_toArray, List.set_cons_zero, List.set_cons_succ]
    refine wpAnyH_done (by kernel_rfl) ?_ _
    have HB7 := Lib.hid (B2.out.trans (hHeld.mono B2.out.size))
    clear hB6 hHeld
    go_wp2
    go_ret
    exact ⟨rfl, HB7.out⟩
  case' ordB =>
    go_simp
    refine hK.out _ _ (hHeld.alloc hHeld.size _) (fun hHeld => ?_)
    clear hK K
    have hfb0 : FrAt (v2.alloc (.cells #[.int .u8 (lv : Nat)] 5)).drew v2.heap.size 0 1 1 (fun _ => lv) := ⟨(fr_one lv hlv v2).cell, fun _ => hlv, (fr_one lv hlv v2).cap, (fr_one lv hlv v2).blk⟩
    generalize (v2.alloc (.cells #[.int .u8 (lv : Nat)] 5)).drew = wb at *
    have FB0 := Lib.hid hfb0
    clear hfb0
    refine wpAnyH_ready (rs := [2]) (by kernel_rfl) (by simp) ?_
    refine AllReadyH.cons rfl (fun K hK => ?_) AllReadyH.nil
    go_simp
    go_wp2_with (go_at_call 199; go_must (refine (CK.out _).mono ?_; rintro e w2 ⟨g1, c1, rfl, hfr, hB⟩))
    refine hK.out _ _ (hHeld.trans (hB.mono hHeld.size)) (fun hHeld => ?_)
    clear hK K
    have FA := Lib.hid hfr
    have FB := Lib.hid (FB0.out.below FB0.out.blk hB (Nat.le_refl _))
    clear hfr hB FB0
    generalize w2 = W at *
    have hcat : ∀ w3, Below (W.alloc (.cells #[.slice (some ⟨g1, 0, none⟩) 14 c1, .slice (some ⟨v2.heap.size, 0, none⟩) 1 1] 37)).heap.size (W.alloc (.cells #[.slice (some ⟨g1, 0, none⟩) 14 c1, .slice (some ⟨v2.heap.size, 0, none⟩) 1 1] 37)) w3 → Calls Tryz.prog 183 #[.slice (some ⟨W.heap.size, 0, none⟩) 2 2] w3 fun e w' => ∃ g' c', e = .returned (.slice (some ⟨g', 0, none⟩) 15 c') ∧ FrAt w' g' 0 15 c' F ∧ Below w3.heap.size w3 w' := fun w3 q => by
      have hpg := keep_block q (Go.heap_alloc_new W (.cells #[.slice (some ⟨g1, 0, none⟩) 14 c1, .slice (some ⟨v2.heap.size, 0, none⟩) 1 1] 37))
      have qa : Below W.heap.size W (W.alloc (.cells #[.slice (some ⟨g1, 0, none⟩) 14 c1, .slice (some ⟨v2.heap.size, 0, none⟩) 1 1] 37)) := (Below.refl _ _).alloc (Nat.le_refl _) _
      have q2 : Below W.heap.size W w3 := qa.trans (q.mono qa.size)
      have := concat_two W.heap.size g1 0 14 c1 v2.heap.size 0 1 1 FK (fun _ => lv) w3 (cells_of_row hpg 0 _ rfl) (cells_of_row hpg 1 _ rfl) (FA.out.below FA.out.blk q2 (Nat.le_refl _)) (FB.out.below FB.out.blk q2 (Nat.le_refl _)) (by omega) (by omega)
      rw [HF.out] at this
      exact this
    have HCAT := Lib.hid hcat
    clear hcat
    refine wpAnyH_ready (rs := [5]) (by kernel_rfl) (by simp) ?_
    refine AllReadyH.cons rfl (fun K hK => ?_) AllReadyH.nil
    go_simp
    refine hK.out _ _ (hHeld.alloc hHeld.size _) (fun hHeld => ?_)
    clear hK K
    refine wpAnyH_ready (rs := [6]) (by kernel_rfl) (by simp) ?_
    refine AllReadyH.cons rfl (fun K hK => ?_) AllReadyH.nil
    go_simp
    go_wp2_with (go_at_call 166; go_must (refine (CS.out _ _ HCAT.out).mono ?_; rintro e w6 ⟨rfl, hB6⟩))
    refine hK.out _ _ (hHeld.trans (hB6.mono hHeld.size)) (fun hHeld => ?_)
    clear hK K
    refine wpAnyH_take (i := 9) (oi := ⟨some 20, _, _, _, _, _⟩) (v := ?_) rfl (by kernel_rfl) (by kernel_rfl) (by kernel_rfl) (fun _ _ _ h => h) (Or.inl ⟨by rfl, ?_⟩) hHeld ?_
    rotate_left
    · intro w hSw
      go_simp
      try with_reducible rfl
    try simp only [Act.put, List.setIfInBounds_toArray, List.set_cons_zero, List.set_cons_succ]
    refine wpAnyH_take (i := 10) (oi := ⟨some 21, _, _, _, _, _⟩) (v := ?_) rfl (by kernel_rfl) (by kernel_rfl) (by kernel_rfl) (fun _ _ _ h => h) (Or.inl ⟨by rfl, ?_⟩) hHeld ?_
    rotate_left
    · intro w hSw
      go_simp
      try with_reducible rfl
    try simp only [Act.put, List.setIfInBounds_toArray, List.set_cons_zero, List.set_cons_succ]
    refine wpAnyH_take (i := 11) (oi := ⟨some 8, _, _, _, _, _⟩) (v := ?_) rfl (by kernel_rfl) (by kernel_rfl) (by kernel_rfl) (fun _ _ _ h => h) (Or.inl ⟨by rfl, ?_⟩) hHeld ?_
    rotate_left
    · intro w hSw
      go_simp
      try with_reducible rfl
    try simp only [Act.put, List.setIfInBounds_toArray, List.set_cons_zero, List.set_cons_succ]
    refine wpAnyH_done (by kernel_rfl) ?_ _
    have HB7 := Lib.hid (B2.out.trans (hHeld.mono B2.out.size))
    clear hB6 hHeld
    go_wp2
    go_ret
    exact ⟨rfl, HB7.out⟩
end Go.Proofs.YtpanmfdbdgecaaaGreat.C

namespace Go.Proofs.YtpanmfdbdgecaaaGreat.C
open Go.RowKit
set_option linter.unusedVariables false
section
variable {w : World} {pb b1 b2 c : Nat} {q : Int} {l : List Tcl}
theorem TnAt.empty {c : Nat} (h : TnAt w pb b1 b2 q l [c]) {C' : Array Value} {w' : World} (hC : w'.heap[b2]? = some (.cells C' 3 (0, 0))) (hs : C'.size = l.length) (p : Two b2 b2 w w') : TnAt (w'.setCell ⟨pb, 2, none⟩ (.slice (some ⟨b2, 0, none⟩) 0 l.length)) pb b1 b2 q l [] ∧ Amg [pb, b1, b2] w (w'.setCell ⟨pb, 2, none⟩ (.slice (some ⟨b2, 0, none⟩) 0 l.length)) := by
  obtain ⟨n1, n2, n3⟩ := h.ne
  have kp := (p.block pb (Array.getElem?_eq_some_iff.1 h.ptr).1 n2 n2).trans h.ptr
  have kr := (p.block b1 (Array.getElem?_eq_some_iff.1 h.row).1 n3 n3).trans h.row
  refine ⟨⟨?_, (heap_setCell_other _ _ _ _ (fun e => n1 e.symm)).trans kr, ⟨C', (heap_setCell_other _ _ _ _ (fun e => n2 e.symm)).trans hC, hs, fun j x hj => by simp at hj⟩, by simp⟩, ?_⟩
  · have := heap_setCell_same _ _ 2 _ _ (.slice (some ⟨b2, 0, none⟩) 0 l.length) kp
    simpa using this
  · exact (Amg.of_two p (by simp) (by simp)).trans (Amg.of_two (Two.setCell (g := pb) (h := pb) (x := ⟨pb, 2, none⟩) (Two.refl _ _ w') (.inl rfl) _) (by simp) (by simp))
theorem TnAt.setField {line : List Nat} (h : TnAt w pb b1 b2 q l line) {c : Nat} {x : Tcl} (hx : l[c]? = some x) (j : Nat) (v : Value) (y : Tcl) (hj : j < 3) (hy : (tclC x).set j v = tclC y) : TnAt (w.setCell ⟨b1, c * 3 + j, none⟩ v) pb b1 b2 q (l.set c y) line := by
  obtain ⟨C, h2, h3, h4⟩ := h.lin
  obtain ⟨n1, n2, n3⟩ := h.ne
  have hc := lt_of_some hx
  refine ⟨?_, ?_, ⟨C, (heap_setCell_other _ _ _ _ (fun e => n3 e.symm)).trans h2, by rw [List.length_set]; exact h3, h4⟩, by rw [List.length_set]; exact h.len⟩
  · rw [heap_setCell_other _ _ _ _ n1, List.length_set]
    exact h.ptr
  · rw [heap_setCell_same _ _ _ _ _ v h.row]
    congr 2
    have hlen : (l.map tclC).flatten.length = l.length * 3 := by rw [flat_length 3 _ tcl_len, List.length_map]
    have hlen2 : ((l.set c y).map tclC).flatten.length = l.length * 3 := by rw [flat_length 3 _ tcl_len, List.length_map, List.length_set]
    rw [List.setIfInBounds_toArray]
    congr 1
    apply List.ext_getElem?
    intro k
    by_cases hk : k < l.length * 3
    · obtain ⟨i, r, hr, hkr, hi⟩ : ∃ i r, r < 3 ∧ k = i * 3 + r ∧ i < l.length := ⟨k / 3, k % 3, Nat.mod_lt _ (by omega), by omega, by omega⟩
      subst hkr
      by_cases hic : i = c
      · subst hic
        have e1 : ((l.set i y).map tclC)[i]? = some (tclC y) := by rw [List.getElem?_map, List.getElem?_set_self hi]; rfl
        rw [flat_at _ tcl_len i r (tclC y) e1 hr, ← hy]
        by_cases hrj : r = j
        · subst hrj
          have h33 : (tclC x).length = 3 := rfl
          rw [List.getElem?_set_self (by omega), List.getElem?_set_self (by omega)]
        · have e2 : (l.map tclC)[i]? = some (tclC x) := by rw [List.getElem?_map, hx]; rfl
          rw [List.getElem?_set_ne (by omega), flat_at _ tcl_len i r (tclC x) e2 hr, List.getElem?_set_ne (fun e => hrj e.symm)]
      · have e1 : ((l.set c y).map tclC)[i]? = some (tclC l[i]) := by rw [List.getElem?_map, List.getElem?_set_ne (fun e => hic e.symm), List.getElem?_eq_getElem hi]; rfl
        have e2 : (l.map tclC)[i]? = some (tclC l[i]) := by rw [List.getElem?_map, List.getElem?_eq_getElem hi]; rfl
        rw [List.getElem?_set_ne (by omega), flat_at _ tcl_len i r _ e1 hr, flat_at _ tcl_len i r _ e2 hr]
    · rw [List.getElem?_eq_none (by rw [List.length_set, hlen]; omega), List.getElem?_eq_none (by rw [hlen2]; omega)]
end
end Go.Proofs.YtpanmfdbdgecaaaGreat.C
