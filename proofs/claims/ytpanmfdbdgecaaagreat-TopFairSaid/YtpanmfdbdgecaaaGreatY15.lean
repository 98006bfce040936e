/- Turns: one of several goes to sleep. · The police: one of a free class leaves. · The walk of Flows (stores). · choke.Match over flows of one's own. · The police: somebody who isn't in the box, whatever becomes of the packet. (Printed by freeany.py.) · The police: Arrive of somebody light, whatever becomes of the packet. (Printed by anyout.py.) · The reference's SipHash: turns to the left, words. · The reference's SipHash: a round. (The walk is printed by refround.py.) · The reference's SipHash: the sum of 15 bytes is the program's. · The reference: a flow's key, whither it falls. · The reference: whither a flow falls. · Whether two flows fall apart. · Whether two flows fall apart: apart. · The law TopVictim: what waits, plainly. · Deficit round robin, plainly: whose turn it is, and that two who wait all the time are given alike. -/
import Derived.Test.YtpanmfdbdgecaaaGreatY14
import Derived.Deep.DeepMust
import Derived.Deep.QuietTactic
import Derived.BigQuiet
import Derived.Outline
namespace Go.Proofs.YtpanmfdbdgecaaaGreat.C
open Go.RowKit
set_option linter.unusedVariables false
theorem nodup_at {l : List Nat} (h : l.Nodup) {i j x : Nat} (hi : l[i]? = some x) (hj : l[j]? = some x) : i = j := by
  have h1 := lt_of_some hi
  have h2 := lt_of_some hj
  rw [List.getElem?_eq_getElem h1] at hi
  rw [List.getElem?_eq_getElem h2] at hj
  injection hi with hi
  injection hj with hj
  have hp := List.pairwise_iff_getElem.1 h
  rcases Nat.lt_trichotomy i j with h3 | h3 | h3
  · exact absurd (hi.trans hj.symm) (hp i j h1 h2 h3)
  · exact h3
  · exact absurd (hj.trans hi.symm) (hp j i h2 h1 h3)
theorem index_many (b n m k c : Nat) (line : List Nat) (C : Array Value) (w : World) (hC : w.heap[b]? = some (.cells C 3 (0, 0))) (hl : ∀ (j x : Nat), line[j]? = some x → C[j]? = some (.int .i64 (x : Nat))) (hk : line[k]? = some c) (hnd : line.Nodup) (hm : line.length = m) (hm9 : m ≤ 129) :
    Calls Tryz.prog 157 #[.slice (some ⟨b, 0, none⟩) m n, .int .i64 (c : Nat)] w fun e w' => e = .returned (.int .i64 (k : Nat)) ∧ w' = w := by
  have hkm : k < m := by rw [← hm]; exact lt_of_some hk
  have HC := Lib.hid hC
  have HL := Lib.hid hl
  have HK := Lib.hid hk
  have HND := Lib.hid hnd
  have HM := Lib.hid hm
  clear hC hl hk hnd hm
  go_enter Tryz.func157, Tryz.ntmps157
  go_wp2_with fail
  go_loopw [8] (fun t wr => ∃ j : Nat, j ≤ k ∧ t = .int .i64 (j : Nat) ∧ w = wr) (fun t _ => k + 1 - (intOf t).toNat)
  case atStart => exact ⟨0, by omega, rfl, rfl⟩
  case round =>
    obtain ⟨j, hj, rfl, rfl⟩ := hrel
    obtain ⟨x, hx⟩ : ∃ x, line[j]? = some x := ⟨_, List.getElem?_eq_getElem (by have := HM.out; omega)⟩
    have cj := cells_of_row HC.out j _ (HL.out j x hx)
    have hjm : (j : Int) < (m : Int) := by omega
    have hjw : IntKind.i64.wrap ((j : Int) + 1) = ((j + 1 : Nat) : Int) := by rw [IntWalk.i64_in _ (by omega)]; omega
    by_cases hjk : j = k
    · subst hjk
      obtain rfl : x = c := by
        have := HK.out
        rw [hx] at this
        injection this
      clear hx
      go_wp2
      go_ret
      exact ⟨rfl, rfl⟩
    · have hne : ¬ ((c : Int) = (x : Int)) := fun e => hjk (nodup_at HND.out hx (by rw [show x = c by omega]; exact HK.out))
      have hd : decide ((c : Int) = (x : Int)) = false := decide_eq_false hne
      have hbe : ((c : Int) == (x : Int)) = false := by simpa using hne
      clear hx
      go_wp2_with fail
      refine ⟨⟨j + 1, by omega, by go_num, by first | rfl | trivial⟩, ?_⟩
      simp only [intOf]
      omega
theorem erase_at (line : List Nat) (k j : Nat) : (line.eraseIdx k)[j]? = if j < k then line[j]? else line[j + 1]? := by
  rw [List.getElem?_eraseIdx]
set_option maxRecDepth 100000 in
set_option maxHeartbeats 1000000 in
theorem delete_many (b n m m1 k : Nat) (line : List Nat) (C : Array Value) (w : World) (hC : w.heap[b]? = some (.cells C 3 (0, 0))) (hs : C.size = n) (hl : ∀ (j x : Nat), line[j]? = some x → C[j]? = some (.int .i64 (x : Nat))) (hm : line.length = m) (hm1 : m = m1 + 1) (hk : k < m) (hmn : m ≤ n) (hn2 : n ≤ 129) :
    Calls Tryz.prog 158 #[.slice (some ⟨b, 0, none⟩) m n, .int .i64 (k : Nat), .int .i64 ((k + 1 : Nat) : Int)] w fun e w' => e = .returned (.slice (some ⟨b, 0, none⟩) m1 n) ∧ (∃ C' : Array Value, w'.heap[b]? = some (.cells C' 3 (0, 0)) ∧ C'.size = n ∧ ∀ (j x : Nat), (line.eraseIdx k)[j]? = some x → C'[j]? = some (.int .i64 (x : Nat))) ∧ Two b b w w' := by
  obtain ⟨i0, hi0, hz0, hz1, hz2⟩ := info_parts int_info
  have HI0 := Lib.hid hi0
  have HZ0 := Lib.hid hz0
  have HZ1 := Lib.hid hz1
  -- what comes behind the one that goes
  obtain ⟨tl, htl⟩ : ∃ tl : List Value, tl = (line.drop (k + 1)).map (fun x => Value.int .i64 (x : Nat)) := ⟨_, rfl⟩
  have htll : tl.length = m - (k + 1) := by rw [htl, List.length_map, List.length_drop, hm]
  have htla : ∀ j, tl[j]? = (line[k + 1 + j]?).map (fun x => Value.int .i64 (x : Nat)) := fun j => by rw [htl, List.getElem?_map, List.getElem?_drop]
  clear htl
  obtain ⟨A, hA⟩ : ∃ A : Addr, (if n = k + 1 then some (⟨b, 0, none⟩ : Addr) else some ⟨b, k + 1, none⟩) = some A := by
    by_cases h : n = k + 1
    · exact ⟨_, if_pos h⟩
    · exact ⟨_, if_neg h⟩
  have hnews : ∀ j u, tl[j]? = some u → w.drew.cell? (A.add j) = some u := fun j u hu => by
    rw [htla] at hu
    obtain ⟨x, hx, rfl⟩ := Option.map_eq_some_iff.1 hu
    have hlt := lt_of_some hx
    have hA2 : A = ⟨b, k + 1, none⟩ := by
      rw [if_neg (by omega)] at hA
      injection hA with hA
      exact hA.symm
    rw [hA2, OW.addr_off]
    exact cells_of_row (w := w.drew) hC (k + 1 + j) _ (hl _ _ hx)
  have hone : ∀ u ∈ tl, u.oneCell' = true := fun u hu => by
    obtain ⟨j, hj⟩ := List.getElem?_of_mem hu
    rw [htla] at hj
    obtain ⟨x, hx, rfl⟩ := Option.map_eq_some_iff.1 hj
    rfl
  have hspare : ∀ j, j < tl.length → (w.drew.cell? ⟨b, 0 + k * 1 + j, none⟩).isSome = true ∧ w.drew.frozen? ⟨b, 0 + k * 1 + j, none⟩ = false := fun j hj => by
    have h1 : (0 + k * 1 + j) < C.size := by omega
    exact ⟨by rw [show w.drew.cell? ⟨b, 0 + k * 1 + j, none⟩ = some C[0 + k * 1 + j] from cells_of_row (w := w.drew) hC _ _ (Array.getElem?_eq_getElem h1)]; rfl, frozen_of_row _ _ _ _ _ (show w.drew.heap[b]? = _ from hC)⟩
  have hcs : k + tl.length ≤ C.size := by omega
  have hX := block_setCells 3 tl k w.drew b C hC hcs
  have hT : Two b b w (w.drew.setCells b k tl) := Two.setCells (g := b) (h := b) (b := b) (.inl rfl) tl k ((Two.refl b b w).drewN 1)
  obtain ⟨C1, hC1⟩ : ∃ C1, (splice C.toList k tl).toArray = C1 := ⟨_, rfl⟩
  have hC1s : C1.size = n := by rw [← hC1, List.size_toArray, splice_length (by simpa using hcs), Array.length_toList, hs]
  have hC1a : ∀ j : Nat, C1[j]? = if j < k then C[j]? else if j < k + tl.length then tl[j - k]? else C[j]? := fun j => by
    rw [← hC1, List.getElem?_toArray, splice_at (by simpa using hcs)]
    simp only [Array.getElem?_toList]
  rw [hC1] at hX
  have hsl : ∀ (j x : Nat), (line.eraseIdx k)[j]? = some x → C1[j]? = some (.int .i64 (x : Nat)) := fun j x hx => by
    rw [erase_at] at hx
    rw [hC1a]
    by_cases h : j < k
    · rw [if_pos h] at hx ⊢
      exact hl _ _ hx
    · rw [if_neg h] at hx ⊢
      have := lt_of_some hx
      rw [if_pos (by omega), htla, show k + 1 + (j - k) = j + 1 by omega, hx]
      rfl
  have hcl : ∀ (W : World) (ty : TypeId), W.heap[b]? = some (.cells C1 3 (0, 0)) → (Builtin.clear_ #[117] ty #[.slice (some ⟨b, m1, none⟩) 1 (n - m1)]).run Tryz.prog W = .ok (.tuple #[]) (W.setCells b m1 (List.replicate 1 (.int .i64 0))) := fun W ty hW =>
    Lib.run_clear_slice W 117 3 ty (.int .i64 0) Tryz.underlying117 (fun w' => by
      have hu := Tryz.underlying3
      simp [zeroValue, typeInfo, hi0, hz0, go_sem]) rfl rfl b m1 1 (n - m1) (by omega) (fun j hj => by
      obtain rfl : j = 0 := by omega
      rw [show W.cell? ⟨b, m1 + 0, none⟩ = some C1[m1] from cells_of_row hW _ _ (Array.getElem?_eq_getElem (by omega))]
      rfl) (fun j hj => frozen_of_row _ _ _ _ _ hW)
  have HCL := Lib.hid hcl
  have HX := Lib.hid hX
  have HT := Lib.hid hT
  have HS1 := Lib.hid hC1s
  have HSL := Lib.hid hsl
  have HML := Lib.hid (show ∀ (j x : Nat), (line.eraseIdx k)[j]? = some x → j < m1 from fun j x hx => by
    have := lt_of_some hx
    rw [List.length_eraseIdx_of_lt (by omega)] at this
    omega)
  have HTL := Lib.hid htll
  have HM1 := Lib.hid hm1
  have HLS := Lib.hid (show k + (m - (k + 1)) = m1 by omega)
  have HD := Lib.hid (show m - m1 = 1 by omega)
  clear hX hT hC1s hsl hcl hC1a hC1 htla hz0 hz2 hC hs hl hm1 hm
  have hke : ¬ ((k : Int) = ((k + 1 : Nat) : Int)) := by omega
  have hkd : decide ((k : Int) = ((k + 1 : Nat) : Int)) = false := decide_eq_false hke
  have hkb : ((k : Int) == ((k + 1 : Nat) : Int)) = false := by simpa using hke
  have hk1 : k + 1 ≤ m := hk
  have hk2 : k ≤ m := by omega
  have hkn : k ≤ n := by omega
  have hk1n : k + 1 ≤ n := by omega
  have hI1 : (k : Int) ≤ ((k + 1 : Nat) : Int) := by omega
  have hI2 : ((k + 1 : Nat) : Int) ≤ (m : Int) := by omega
  have hI5 : (0 : Int) ≤ (k : Int) + 1 := by omega
  have hI6 : (k : Int) + 1 ≤ (m : Int) := by omega
  have hI3 : (m : Int) ≤ (n : Int) := by omega
  have hI4 : (k : Int) ≤ (n : Int) := by omega
  go_enter Tryz.func158, Tryz.ntmps158
  go_wp2_with fail
  go_region_law (refine step_append_room rfl (.tmp 22) (.tmp 25) 117 rfl 3 i0 1 Tryz.underlying117 hi0 hz1 b 0 k n (by simp [Act.eval, Act.put]) A (m - (k + 1)) (n - (k + 1)) tl (by simp [Act.eval, Act.put]) (by rw [htll]; omega) hnews hone (by omega) hspare ?_)
  rw [HLS.out]
  clear hnews hspare hone hcs htll hA HLS
  generalize w.drew.setCells b k tl = W at *
  have hd1 := HD.out
  have hmm := HM1.out
  have hn1 : ¬ (n = m1) := by omega
  have hn2' : n ≠ m1 := hn1
  have hi1 : (m1 : Int) ≤ (m : Int) := by omega
  have hi2 : (0 : Int) ≤ (m1 : Int) := by omega
  have hi3 : m1 ≤ m := by omega
  clear hmm
  have hst := heap_setCell_same W _ m1 _ _ (.int .i64 0) HX.out
  have hcl0 := HCL.out W
  have HF : Hid (W.setCells b m1 (List.replicate 1 (.int .i64 0)) = W.setCell ⟨b, m1, none⟩ (.int .i64 0)) := Lib.hid rfl
  have HTF : Hid (Two b b w (W.setCell ⟨b, m1, none⟩ (.int .i64 0))) := Lib.hid (Two.setCell (x := ⟨b, m1, none⟩) HT.out (.inl rfl) _)
  have HST := Lib.hid hst
  clear hst hcl0 HT
  go_wp2_with ((with_reducible refine arm_clear 31 117 _ _ _ (HCL.out _ _ HX.out) ?_ ?_); rfl)
  go_ret
  refine ⟨rfl, ⟨_, HST.out, by rw [Array.size_setIfInBounds]; exact HS1.out, fun j x hx => ?_⟩, HTF.out⟩
  rw [Array.getElem?_setIfInBounds_ne (by have := HML.out j x hx; omega)]
  exact HSL.out j x hx
section
variable {w : World} {pb b1 b2 : Nat} {q : Int} {l : List Tcl} {line : List Nat}
theorem TnAt.erase (h : TnAt w pb b1 b2 q l line) {k m1 : Nat} (hm : line.length = m1 + 1) (hk : k < line.length) {C' : Array Value} {w' : World} (hC : w'.heap[b2]? = some (.cells C' 3 (0, 0))) (hs : C'.size = l.length) (hl : ∀ (j x : Nat), (line.eraseIdx k)[j]? = some x → C'[j]? = some (.int .i64 (x : Nat))) (p : Two b2 b2 w w') : TnAt (w'.setCell ⟨pb, 2, none⟩ (.slice (some ⟨b2, 0, none⟩) m1 l.length)) pb b1 b2 q l (line.eraseIdx k) ∧ Amg [pb, b1, b2] w (w'.setCell ⟨pb, 2, none⟩ (.slice (some ⟨b2, 0, none⟩) m1 l.length)) := by
  obtain ⟨n1, n2, n3⟩ := h.ne
  have kp := (p.block pb (Array.getElem?_eq_some_iff.1 h.ptr).1 n2 n2).trans h.ptr
  have kr := (p.block b1 (Array.getElem?_eq_some_iff.1 h.row).1 n3 n3).trans h.row
  have hle : (line.eraseIdx k).length = m1 := by rw [List.length_eraseIdx_of_lt hk]; omega
  refine ⟨⟨?_, (heap_setCell_other _ _ _ _ (fun e => n1 e.symm)).trans kr, ⟨C', (heap_setCell_other _ _ _ _ (fun e => n2 e.symm)).trans hC, hs, hl⟩, by rw [hle]; have := h.len; omega⟩, ?_⟩
  · have := heap_setCell_same _ _ 2 _ _ (.slice (some ⟨b2, 0, none⟩) m1 l.length) kp
    rw [hle]
    simpa using this
  · exact (Amg.of_two p (by simp) (by simp)).trans (Amg.of_two (Two.setCell (g := pb) (h := pb) (x := ⟨pb, 2, none⟩) (Two.refl _ _ w') (.inl rfl) _) (by simp) (by simp))
set_option maxRecDepth 100000 in
theorem sleep_many (c k : Nat) (x : Tcl) (h : TnAt w pb b1 b2 q l line) (hl : l.length ≤ 129) (hx : l[c]? = some x) (ha : x.awake = true) (hk : line[k]? = some c) (hnd : line.Nodup) :
    Calls Tryz.prog 103 #[.pointer (some ⟨pb, 0, none⟩), .int .i64 (c : Nat)] w fun e w' => e = .returned (.bool true) ∧ TnAt w' pb b1 b2 q (l.set c ⟨false, false, 0⟩) (line.eraseIdx k) ∧ Amg [pb, b1, b2] w w' := by
  have hc := lt_of_some hx
  have hkl := lt_of_some hk
  have CH := Lib.hid (turns_has (c : Nat) h hl)
  rw [decide_eq_true (show 0 ≤ (c : Int) ∧ (c : Int) < l.length by omega)] at CH
  obtain ⟨c0, c1, c2, f2⟩ := h.c0
  obtain ⟨d0, d1, d2, ff⟩ := h.cls hx
  rw [ha] at d0
  have ff0 := ff (c * 3)
  have ff1 := ff (c * 3 + 1)
  have ff2 := ff (c * 3 + 2)
  clear ff
  have hlen := h.len
  have HH := Lib.hid h
  have HX := Lib.hid hx
  have HL := Lib.hid hl
  have HK := Lib.hid hk
  have HND := Lib.hid hnd
  clear h hx hk hnd
  obtain ⟨n, hn⟩ : ∃ n, n = l.length := ⟨_, rfl⟩
  obtain ⟨m, hm⟩ : ∃ m, m = line.length := ⟨_, rfl⟩
  obtain ⟨m1, hm1⟩ : ∃ m1, m = m1 + 1 := ⟨m - 1, by omega⟩
  rw [← hn] at c1 c2 hc hlen
  rw [← hm] at c2 hkl hlen
  have HN := Lib.hid hn
  have HM := Lib.hid hm
  have HM1 := Lib.hid hm1
  have HLE := Lib.hid hlen
  clear hn hl hm hm1 hlen
  have hcn : (c : Int) < (n : Int) := by omega
  go_enter Tryz.func103, Tryz.ntmps103
  go_wp2_with fail
  refine CH.out.mono ?_
  rintro e w1 ⟨rfl, rfl⟩
  go_upto_region 4 with (fail)
  have h3 := HH.out.setCls HX.out ⟨false, false, 0⟩
  have a3 : Amg [pb, b1, b2] w1 (w1.setCells b1 (c * 3) (tclC ⟨false, false, 0⟩)) := Amg.of_two (Two.setCells (g := b1) (h := b1) (.inl rfl) _ _ (Two.refl b1 b1 w1)) (by simp) (by simp)
  have e3 : ((w1.setCell ⟨b1, c * 3, none⟩ (.bool false)).setCell ⟨b1, c * 3 + 1, none⟩ (.bool false)).setCell ⟨b1, c * 3 + 2, none⟩ (.int .i64 0) = w1.setCells b1 (c * 3) (tclC ⟨false, false, 0⟩) := rfl
  rw [e3]
  have HA := Lib.hid a3
  clear a3 e3 c0 c1 c2 f2 d0 d1 d2 ff0 ff1 ff2 CH
  generalize w1.setCells b1 (c * 3) (tclC ⟨false, false, 0⟩) = w3 at *
  have hl2 : (l.set c ⟨false, false, 0⟩).length = n := by rw [List.length_set, HN.out]
  generalize hq2 : l.set c ⟨false, false, 0⟩ = l2 at h3 hl2
  have HL2 := Lib.hid hq2
  clear hq2
  have hn129 : n ≤ 129 := HN.out ▸ HL.out
  clear HH HX HN HL
  subst hl2
  obtain ⟨_, _, c2, f2⟩ := h3.c0
  obtain ⟨C, hC, hCs, hCl⟩ := h3.lin
  rw [← HM.out] at c2
  have CI := Lib.hid (index_many b2 l2.length m k c line C w3 hC hCl HK.out HND.out HM.out.symm (by have := HLE.out; omega))
  have CD := Lib.hid (delete_many b2 l2.length m m1 k line C w3 hC hCs hCl HM.out.symm HM1.out hkl HLE.out hn129)
  have H3 := Lib.hid h3
  have hkw : IntKind.i64.wrap ((k : Int) + 1) = ((k + 1 : Nat) : Int) := by rw [IntWalk.i64_in _ (by have := HLE.out; omega)]; omega
  have HKL := Lib.hid hkl
  clear h3 hC hCs hCl hc hcn hn129 hkl
  go_wp2_with fail
  refine CI.out.mono ?_
  rintro e w4 ⟨rfl, hw4⟩
  replace hw4 := hw4.symm
  subst hw4
  go_wp2_with fail
  refine CD.out.mono ?_
  rintro e w5 ⟨rfl, ⟨C', hC', hs', hl'⟩, hT⟩
  obtain ⟨r1, r2⟩ := H3.out.erase (k := k) (HM.out.symm.trans HM1.out) (by rw [← HM.out]; exact HKL.out) hC' hs' hl' hT
  obtain ⟨n1, n2, n3⟩ := H3.out.ne
  have k5 := (hT.block pb (Array.getElem?_eq_some_iff.1 H3.out.ptr).1 n2 n2).trans H3.out.ptr
  have c5 := cells_of_row k5 2 _ rfl
  have f5 := frozen_of_row _ _ 2 _ _ k5
  rw [← HM.out] at c5
  have R1 := Lib.hid r1
  have R2 := Lib.hid r2
  clear r1 r2 hC' hs' hl' hT k5 c2 f2 n1 n2 n3 CI CD
  go_wp2
  go_ret
  rw [HL2.out]
  exact ⟨rfl, R1.out, HA.out.trans R2.out⟩
end
end Go.Proofs.YtpanmfdbdgecaaaGreat.C

namespace Go.Proofs.YtpanmfdbdgecaaaGreat.C
open Go.RowKit
set_option linter.unusedVariables false
/-- What the police has when one of a class has left. -/
def leftF (F : PCf) (S : PSt) (n : Int) (cl : Nat) (l : List (Array Value)) (k j : Nat) (bn : Bin) : PSt :=
  { S with L := S.L.set cl l, sh := QU.subS (F.c 9) S.sh S.ql (cl : Nat) n, ql := QU.subL S.ql (cl : Nat) n, b0 := S.b0.set k ⟨subC bn.bytes n, bn.changed, bn.p⟩, tl := if l = [] then S.tl.set cl ⟨false, false, 0⟩ else S.tl, line := if l = [] then S.line.eraseIdx j else S.line }
section
variable {w : World} {A : PAd} {F : PCf} {S : PSt}
set_option maxRecDepth 100000 in
set_option maxHeartbeats 1000000 in
theorem count_off (K FK : Nat → Nat) (x fl : Array Value) (cl k : Nat) (n : Int) (y : Bin) (h : Pol w A F S) (hv : Lv1 F K) (hx : PkL x n) (hxf : PkF x fl) (hf : KeyOf fl FK) (hcl : (cl : Int) < F.c 0) (hk : fallV K FK 1 (F.c 3).toNat = k) (hy : S.b0[k]? = some y) (hn : 1 ≤ n ∧ n ≤ 9216) :
    Calls Tryz.prog 133 #[.pointer (some ⟨A.pb, 0, none⟩), .int .i64 (cl : Nat), .agg x, .bool false] w fun e w' => e = .returned (.tuple #[]) ∧ Pol w' A F { S with b0 := S.b0.set k ⟨subC y.bytes n, y.changed, y.p⟩ } ∧ Tur A.tg [6, 7] w w' := by
  have hbn := h.fok.right.bins
  have hbk := h.fok.right.buckets
  have hlv := hv.lv
  have hkl : k < (F.c 3).toNat := by
    rw [← hk]
    exact fallV_lt _ _ _ _ (by omega)
  have CP := Lib.hid (fun w' (q : Pol w' A F S) => police_penalty q)
  have CB := Lib.hid (fun w' (q : Pol w' A F S) => police_bins K FK fl q hv hf)
  rw [hk] at CB
  have CU : Hid (∀ (w' : World) (g c : Nat), Pol w' A F S → w'.cell? ⟨g, 0, none⟩ = some (.int .i64 (k : Nat)) → Calls Tryz.prog 98 #[.pointer (some ⟨A.u0, 0, none⟩), .slice (some ⟨g, 0, none⟩) 1 c, .int .i64 n] w' fun e w'' => e = .returned (.bool true) ∧ Pol w'' A F { S with b0 := S.b0.set k ⟨subC y.bytes n, y.changed, y.p⟩ } ∧ Tur A.tg [6] w' w'') := Lib.hid fun w' g c q hc => by
    have hb0 := q.b0
    rw [hlv] at hb0
    refine (blue_take A.u0 A.v0 g c k (F.c 3).toNat S.b0 y (F.c 13) (F.c 14) (F.c 4) (F.c 5) n w' hb0 hc hkl (by omega) hy (by omega)).mono ?_
    rintro e w'' ⟨rfl, hB, hT⟩
    have hT' : Tur A.tg [6] w' w'' := Tur.of_two hT (by simp [q.ok.b0.2]) (by simp [q.ok.b0.2])
    refine ⟨rfl, (q.rest hT').setB0 ?_, hT'⟩
    rw [hlv]
    exact hB
  have HH := Lib.hid h
  have HXP := Lib.hid hx
  have HXF := Lib.hid hxf
  have HFS := Lib.hid hf.size
  have hne : ((cl : Int) == 2 * F.c 0) = false := beq_false_of_ne (by omega)
  have hq0 : (cl : Int).tdiv (F.c 0) = 0 := Int.tdiv_eq_zero_of_lt (by omega) hcl
  have hnz : ¬ (F.c 0 = 0) := by omega
  have hb0 := h.lo 0 (by omega)
  clear h hv hx hxf hf hy hk hlv
  generalize 2 * F.c 0 = pn at *
  have hne2 : ¬ ((cl : Int) = pn) := by simpa using hne
  go_enter Tryz.func133, Tryz.ntmps133
  go_upto_region 1 with ((with_reducible refine arm_box 6 2 68 x ?_ ?_); rfl; intro w1 HB HX HS)
  have HP1 := Lib.hid (HH.out.below HB.out)
  go_wp2_with fail
  refine (CP.out _ HP1.out).mono ?_
  rintro e w2 ⟨rfl, hw2⟩
  subst hw2
  have k0 := HP1.out.lo 0 (by omega)
  have HLD : Hid (∀ w', Below w2.heap.size w2 w' → w'.cell? ⟨A.pb, 24, none⟩ = some (.pointer (some ⟨A.u0, 0, none⟩)) ∧ (Instr.loadAt 58 (.pointer (some ⟨w.heap.size, 1, none⟩))).run Tryz.prog w' = .ok (.agg fl) w') := Lib.hid fun w' q =>
    ⟨(HP1.out.below q).c24, HXF.out.load HFS.out (keep_block q HX.out)⟩
  go_wp2_with fail
  refine wp_region_held_drew (S := Below w2.heap.size w2) (by kernel_rfl) (Below.refl _ _).drew (fun hHeld => ?_)
  refine wpAnyH_take (i := 0) (oi := ⟨some 22, _, _, _, _, _⟩) (v := ?_) rfl (by kernel_rfl) (by kernel_rfl) (by kernel_rfl) (fun _ _ _ h => h) (Or.inl ⟨by rfl, ?_⟩) hHeld ?_
  rotate_left
  · intro w hSw
    go_simp
    try with_reducible rfl
  try simp only [Act.put, List.setIfInBounds_toArray, List.set_cons_zero, List.set_cons_succ]
  refine wpAnyH_take (i := 1) (oi := ⟨some 23, _, _, _, _, _⟩) (v := ?_) rfl (by kernel_rfl) (by kernel_rfl) (by kernel_rfl) (fun _ _ _ h => h) (Or.inl ⟨by rfl, ?_⟩) hHeld ?_
  rotate_left
  · intro w hSw
    go_simp
    try with_reducible rfl
  try simp only [Act.put, List.setIfInBounds_toArray, List.set_cons_zero, List.set_cons_succ]
  refine wpAnyH_take (i := 2) (oi := ⟨some 24, _, _, _, _, _⟩) (v := ?_) rfl (by kernel_rfl) (by kernel_rfl) (by kernel_rfl) (fun _ _ _ h => h) (Or.inl ⟨by rfl, ?_⟩) hHeld ?_
  rotate_left
  · intro w hSw
    go_simp
    try with_reducible rfl
  try simp only [Act.put, List.setIfInBounds_toArray, List.set_cons_zero, List.set_cons_succ]
  refine wpAnyH_take (i := 3) (oi := ⟨some 25, _, _, _, _, _⟩) (v := ?_) rfl (by kernel_rfl) (by kernel_rfl) (by kernel_rfl) (fun _ _ _ h => h) (Or.inl ⟨by rfl, ?_⟩) hHeld ?_
  rotate_left
  · intro w hSw
    go_simp
    try with_reducible rfl
  try simp only [Act.put, List.setIfInBounds_toArray, List.set_cons_zero, List.set_cons_succ]
  refine wpAnyH_take (i := 4) (oi := ⟨some 26, _, _, _, _, _⟩) (v := ?_) rfl (by kernel_rfl) (by kernel_rfl) (by kernel_rfl) (fun _ _ _ h => h) (Or.inl ⟨by rfl, ?_⟩) hHeld ?_
  rotate_left
  · intro w hSw
    go_simp
    try with_reducible rfl
  try simp only [Act.put, List.setIfInBounds_toArray, List.set_cons_zero, List.set_cons_succ]
  refine wpAnyH_take (i := 5) (oi := ⟨some 27, _, _, _, _, _⟩) (v := ?_) rfl (by kernel_rfl) (by kernel_rfl) (by kernel_rfl) (fun _ _ _ h => h) (Or.inl ⟨by rfl, ?_⟩) hHeld ?_
  rotate_left
  · intro w hSw
    obtain ⟨k4, _⟩ := HLD.out w hSw
    go_simp
    try with_reducible rfl
  try simp only [Act.put, List.setIfInBounds_toArray, List.set_cons_zero, List.set_cons_succ]
  refine wpAnyH_take (i := 6) (oi := ⟨some 28, _, _, _, _, _⟩) (v := ?_) rfl (by kernel_rfl) (by kernel_rfl) (by kernel_rfl) (fun _ _ _ h => h) (Or.inl ⟨by rfl, ?_⟩) hHeld ?_
  rotate_left
  · intro w hSw
    go_simp
    try with_reducible rfl
  try simp only [Act.put, List.setIfInBounds_toArray, List.set_cons_zero, List.set_cons_succ]
  refine wpAnyH_take (i := 7) (oi := ⟨some 29, _, _, _, _, _⟩) (v := ?_) rfl (by kernel_rfl) (by kernel_rfl) (by kernel_rfl) (fun _ _ _ h => h) (Or.inl ⟨by rfl, ?_⟩) hHeld ?_
  rotate_left
  · intro w hSw
    go_simp
    try with_reducible rfl
  try simp only [Act.put, List.setIfInBounds_toArray, List.set_cons_zero, List.set_cons_succ]
  refine wpAnyH_take (i := 8) (oi := ⟨some 30, _, _, _, _, _⟩) (v := ?_) rfl (by kernel_rfl) (by kernel_rfl) (by kernel_rfl) (fun _ _ _ h => h) (Or.inl ⟨by rfl, ?_⟩) hHeld ?_
  rotate_left
  · intro w hSw
    go_simp
    try with_reducible rfl
  try simp only [Act.put, List.setIfInBounds_toArray, List.set_cons_zero, List.set_cons_succ]
  refine wpAnyH_take (i := 9) (oi := ⟨some 31, _, _, _, _, _⟩) (v := .agg fl) rfl (by kernel_rfl) (by kernel_rfl) (by kernel_rfl) (fun _ _ _ h => h) (Or.inl ⟨by rfl, fun w hSw => exec_load rfl (HLD.out w hSw).2⟩) hHeld ?_
  try simp only [Act.put, List.setIfInBounds_toArray, List.set_cons_zero, List.set_cons_succ]
  refine wpAnyH_ready (rs := [10]) (by kernel_rfl) (by simp) ?_
  refine AllReadyH.cons rfl (fun K hK => ?_) AllReadyH.nil
  go_simp
  go_wp2_with (go_at_call 80; go_must (refine (CB.out _ (HP1.out.below hHeld)).mono ?_; rintro e w10 ⟨⟨v, rfl, hR⟩, hB⟩))
  refine hK.out _ _ (hHeld.trans (hB.mono hHeld.size)) (fun hHeld => ?_)
  clear hK K
  refine wpAnyH_take (i := 11) (oi := ⟨some 9, _, _, _, _, _⟩) (v := ?_) rfl (by kernel_rfl) (by kernel_rfl) (by kernel_rfl) (fun _ _ _ h => h) (Or.inl ⟨by rfl, ?_⟩) hHeld ?_
  rotate_left
  · intro w hSw
    go_simp
    try with_reducible rfl
  try simp only [Act.put, List.setIfInBounds_toArray, List.set_cons_zero, List.set_cons_succ]
  refine wpAnyH_take (i := 12) (oi := ⟨some 10, _, _, _, _, _⟩) (v := ?_) rfl (by kernel_rfl) (by kernel_rfl) (by kernel_rfl) (fun _ _ _ h => h) (Or.inl ⟨by rfl, ?_⟩) hHeld ?_
  rotate_left
  · intro w hSw
    go_simp
    try with_reducible rfl
  try simp only [Act.put, List.setIfInBounds_toArray, List.set_cons_zero, List.set_cons_succ]
  refine wpAnyH_done (by kernel_rfl) ?_ _
  obtain ⟨g, c, rfl, _, hgc⟩ := hR
  have HP2 := Lib.hid (HP1.out.below hHeld)
  have HX2 := Lib.hid (keep_block hHeld HX.out)
  have HB2 := Lib.hid (HB.out.trans (hHeld.mono HB.out.size))
  have CU2 := Lib.hid (CU.out w10 g c HP2.out hgc)
  have k45 := cells_of_row HX2.out 45 _ HXP.out.len
  clear hB hHeld hgc k0 hb0
  go_wp2_with fail
  refine CU2.out.mono ?_
  rintro e w11 ⟨rfl, hP, hT⟩
  have HP3 := Lib.hid hP
  have HT3 : Hid (Tur A.tg [6, 7] w w11) := Lib.hid ((Tur.of_below HB2.out).trans (hT.sub (by simp)))
  clear hP hT CU2
  go_wp2
  go_end0
  exact ⟨rfl, HP3.out, HT3.out⟩
set_option maxRecDepth 100000 in
set_option maxHeartbeats 2000000 in
theorem leave_free (K FK : Nat → Nat) (x fl : Array Value) (cl kx k j : Nat) (n : Int) (l0 l : List (Array Value)) (y : Tcl) (bn : Bin) (h : Pol w A F S) (hv : Lv1 F K) (hx : PkL x n) (hxf : PkF x fl) (hf : KeyOf fl FK) (hcl : (cl : Int) < F.c 0) (hk : fallV K FK 1 (F.c 3).toNat = k) (hb : S.b0[k]? = some bn) (hn : 1 ≤ n ∧ n ≤ 9216) (hl : S.L[cl]? = some l0) (hkx : l0[kx]? = some x) (hle : l0.eraseIdx kx = l) (hok : QU.QOk (F.c 9) (F.c 10) S.sh S.ql) (htl : S.tl.length ≤ 129) (hy : S.tl[cl]? = some y) (ya : y.awake = true) (hj : S.line[j]? = some cl) (hnd : S.line.Nodup) :
    Calls Tryz.prog 79 #[.pointer (some ⟨A.pb, 0, none⟩), .int .i64 (cl : Nat), .int .i64 (kx : Nat)] w fun e w' => e = .returned (.tuple #[.agg x, .bool true]) ∧ Pol w' A F (leftF F S n cl l k j bn) ∧ Tur A.tg [3, 4, 5, 6, 7] w w' := by
  have hcb := h.fok.right.buckets
  have hlt := lt_of_some hl
  have HO := Lib.hid h.ok
  have HL := Lib.hid hx.len
  have HPK := Lib.hid hx.pk
  have HLI := Lib.hid h.lim
  have CS : Hid (∀ w', Pol w' A F S → Calls Tryz.prog 136 #[.pointer (some ⟨A.st.sb, 0, none⟩), .int .i64 (cl : Nat), .int .i64 (kx : Nat)] w' fun e w'' => e = .returned (.tuple #[.agg x, .bool true]) ∧ Pol w'' A F { S with L := S.L.set cl l } ∧ Tur A.tg [3] w' w'') := Lib.hid fun w' q => by
    refine (st_cut_yes cl kx n x l0 q.sto hx.len hl hkx).mono ?_
    rintro e w'' ⟨rfl, hS, hA⟩
    rw [hle] at hS
    have hT : Tur A.tg [3] w' w'' := Tur.of_amg hA (fun k hk => by
      have : k ∈ A.st.sb :: A.st.pb :: A.st.bs := List.mem_cons_of_mem _ (List.mem_cons_of_mem _ hk)
      rw [q.ok.st k this]
      simp)
    exact ⟨rfl, (q.rest hT).setSto hS, hT⟩
  have CU : Hid (∀ w', Pol w' A F { S with L := S.L.set cl l } → Calls Tryz.prog 137 #[.pointer (some ⟨A.qb, 0, none⟩), .int .i64 (cl : Nat), .int .i64 n] w' fun e w'' => (∃ b, e = .returned (.bool b)) ∧ Pol w'' A F { S with L := S.L.set cl l, sh := QU.subS (F.c 9) S.sh S.ql (cl : Nat) n, ql := QU.subL S.ql (cl : Nat) n } ∧ Tur A.tg [4] w' w'') := Lib.hid fun w' q => by
    refine (QU.sub_any A.qb A.qr (F.c 9) (F.c 10) S.sh (cl : Nat) n S.ql w' q.q hok (by omega) (by omega)).mono ?_
    rintro e w'' ⟨rfl, hS, hA⟩
    have hT : Tur A.tg [4] w' w'' := Tur.of_two hA (by simp [q.ok.q.1]) (by simp [q.ok.q.2])
    exact ⟨⟨_, rfl⟩, (q.rest hT).setQ hS, hT⟩
  have CN : Hid (∀ w', Pol w' A F { S with L := S.L.set cl l, sh := QU.subS (F.c 9) S.sh S.ql (cl : Nat) n, ql := QU.subL S.ql (cl : Nat) n } → Calls Tryz.prog 133 #[.pointer (some ⟨A.pb, 0, none⟩), .int .i64 (cl : Nat), .agg x, .bool false] w' fun e w'' => e = .returned (.tuple #[]) ∧ Pol w'' A F { S with L := S.L.set cl l, sh := QU.subS (F.c 9) S.sh S.ql (cl : Nat) n, ql := QU.subL S.ql (cl : Nat) n, b0 := S.b0.set k ⟨subC bn.bytes n, bn.changed, bn.p⟩ } ∧ Tur A.tg [6, 7] w' w'') := Lib.hid fun w' q => count_off K FK x fl cl k n bn q hv hx hxf hf hcl hk hb hn
  have CE : Hid (∀ w', Pol w' A F { S with L := S.L.set cl l, sh := QU.subS (F.c 9) S.sh S.ql (cl : Nat) n, ql := QU.subL S.ql (cl : Nat) n, b0 := S.b0.set k ⟨subC bn.bytes n, bn.changed, bn.p⟩ } → Calls Tryz.prog 43 #[.pointer (some ⟨A.st.sb, 0, none⟩), .int .i64 (cl : Nat)] w' fun e w'' => e = .returned (.int .i64 (l.length : Nat)) ∧ w'' = w') := Lib.hid fun w' q => st_len cl l q.sto (List.getElem?_set_self hlt)
  have CZ : Hid (l = [] → ∀ w', Pol w' A F { S with L := S.L.set cl l, sh := QU.subS (F.c 9) S.sh S.ql (cl : Nat) n, ql := QU.subL S.ql (cl : Nat) n, b0 := S.b0.set k ⟨subC bn.bytes n, bn.changed, bn.p⟩ } → Calls Tryz.prog 103 #[.pointer (some ⟨A.tb, 0, none⟩), .int .i64 (cl : Nat)] w' fun e w'' => e = .returned (.bool true) ∧ Pol w'' A F (leftF F S n cl l k j bn) ∧ Tur A.tg [5] w' w'') := Lib.hid fun hl0 w' q => by
    have hq := q.tn
    refine (sleep_many cl j y hq htl hy ya hj hnd).mono ?_
    rintro e w'' ⟨rfl, hS, hA⟩
    have hT : Tur A.tg [5] w' w'' := Tur.of_amg hA (fun k hk => by
      obtain ⟨t1, t2, t3⟩ := q.ok.t
      simp only [List.mem_cons, List.not_mem_nil, or_false] at hk
      rcases hk with rfl | rfl | rfl <;> simp [t1, t2, t3])
    have := (q.rest hT).setT hS
    refine ⟨rfl, ?_, hT⟩
    unfold leftF
    rw [if_pos hl0, if_pos hl0]
    exact this
  have HEQ : Hid (l ≠ [] → leftF F S n cl l k j bn = { S with L := S.L.set cl l, sh := QU.subS (F.c 9) S.sh S.ql (cl : Nat) n, ql := QU.subL S.ql (cl : Nat) n, b0 := S.b0.set k ⟨subC bn.bytes n, bn.changed, bn.p⟩ }) := Lib.hid fun h0 => by
    unfold leftF
    rw [if_neg h0, if_neg h0]
  have HP0 := Lib.hid h
  clear h hok hx hl hy htl hn hlt hv hxf hf hk hb hkx hle hj hnd hcb hcl
  generalize leftF F S n cl l k j bn = S4 at *
  generalize { S with L := S.L.set cl l, sh := QU.subS (F.c 9) S.sh S.ql (cl : Nat) n, ql := QU.subL S.ql (cl : Nat) n, b0 := S.b0.set k ⟨subC bn.bytes n, bn.changed, bn.p⟩ } = S3b at *
  generalize { S with L := S.L.set cl l, sh := QU.subS (F.c 9) S.sh S.ql (cl : Nat) n, ql := QU.subL S.ql (cl : Nat) n } = S3 at *
  generalize { S with L := S.L.set cl l } = S2 at *
  go_enter Tryz.func79, Tryz.ntmps79
  go_upto_region 1 with ((with_reducible refine arm_alloc 6 68 PZ 46 pz_zero ?_); intro w1 HB HX HS)
  have HP1 := Lib.hid (HP0.out.below HB.out)
  have hlim : A.lim ≤ w.heap.size := HLI.out
  have HNI : Hid (∀ {a b : World} {ks : List Nat}, Tur A.tg ks a b → 0 ∉ ks → ∀ {k : Nat}, w.heap.size ≤ k → ∀ {o}, a.heap[k]? = some o → b.heap[k]? = some o) := Lib.hid fun q h0 k hk o ho => q.keep ho (by rw [HO.out.hi _ (Nat.le_trans hlim hk)]; exact h0)
  have k1 := HP1.out.c21
  clear hlim
  go_wp2_with fail
  refine (CS.out _ HP1.out).mono ?_
  rintro e w2 ⟨rfl, hP2, hT2⟩
  have HP2 := Lib.hid hP2
  have HX2 := Lib.hid (HNI.out hT2 (by decide) (Nat.le_refl _) HX.out)
  have T2 : Hid (Tur A.tg [3, 4, 5, 6, 7] w w2) := Lib.hid ((Tur.of_below HB.out).trans (hT2.sub (by simp)))
  have HS2 := Lib.hid (Nat.le_trans HB.out.size hT2.size)
  clear hP2 hT2 k1 CS HP1 HP0 HX HB HS
  go_upto_region 4 with (first
    | ((with_reducible refine arm_alloc 8 68 PZ 46 pz_zero ?_); intro w3 HB HX HS; have hst := pkt_store HX.out HPK.out)
    | ((with_reducible refine arm_store 8 18 68 (.pointer (some ⟨w2.heap.size, 0, none⟩)) (.agg x) _ hst ?_ ?_ ?_); rfl; rfl))
  have hX4 := box_whole HX.out (cs := x) HPK.out.size
  have hB4 := below_setCells (b := w2.heap.size) (Nat.le_refl _) x.toList 0 HB.out
  have hvl : w2.heap.size < (w3.setCells w2.heap.size 0 x.toList).heap.size := (Array.getElem?_eq_some_iff.1 hX4).1
  clear hst HX HB HS
  generalize w3.setCells w2.heap.size 0 x.toList = w4 at *
  have HP4 := Lib.hid (HP2.out.below hB4)
  have HR4 := Lib.hid (keep_block hB4 HX2.out)
  have T4 : Hid (Tur A.tg [3, 4, 5, 6, 7] w w4) := Lib.hid (T2.out.trans (Tur.of_below hB4))
  obtain ⟨vb, hvb⟩ : ∃ v, v = w2.heap.size := ⟨_, rfl⟩
  rw [← hvb] at hX4 hB4 hvl ⊢
  have HVB := Lib.hid (show w.heap.size ≤ vb from hvb ▸ HS2.out)
  have HX4 := Lib.hid hX4
  clear hX4 hB4 hvl hvb HP2 HX2 T2 HS2
  have HL4 : Hid (∀ w' ks, Tur A.tg ks w4 w' → 1 ∉ ks → 0 ∉ ks → w'.cell? ⟨A.pb, 22, none⟩ = some (.pointer (some ⟨A.qb, 0, none⟩)) ∧ w'.cell? ⟨vb, 45, none⟩ = some (.int .i64 n)) := Lib.hid fun w' ks q h1 h0 =>
    ⟨cells_of_row ((HP4.out.rest q).ptr h1) 22 _ (polC_hi HP4.out 2), cells_of_row (HNI.out q h0 HVB.out HX4.out) 45 _ HL.out⟩
  refine wp_region_held_drew (S := Tur A.tg [4] w4) (by kernel_rfl) (Tur.refl _ _ _).drew (fun hHeld => ?_)
  refine wpAnyH_take (i := 0) (oi := ⟨some 23, _, _, _, _, _⟩) (v := ?_) rfl (by kernel_rfl) (by kernel_rfl) (by kernel_rfl) (fun _ _ _ h => h) (Or.inl ⟨by rfl, ?_⟩) hHeld ?_
  rotate_left
  · intro w hSw
    go_simp
    try with_reducible rfl
  try simp only [Act.put, List.setIfInBounds_toArray, List.set_cons_zero, List.set_cons_succ]
  refine wpAnyH_take (i := 1) (oi := ⟨some 24, _, _, _, _, _⟩) (v := ?_) rfl (by kernel_rfl) (by kernel_rfl) (by kernel_rfl) (fun _ _ _ h => h) (Or.inl ⟨by rfl, ?_⟩) hHeld ?_
  rotate_left
  · intro w hSw
    go_simp
    try with_reducible rfl
  try simp only [Act.put, List.setIfInBounds_toArray, List.set_cons_zero, List.set_cons_succ]
  refine wpAnyH_take (i := 2) (oi := ⟨some 25, _, _, _, _, _⟩) (v := ?_) rfl (by kernel_rfl) (by kernel_rfl) (by kernel_rfl) (fun _ _ _ h => h) (Or.inl ⟨by rfl, ?_⟩) hHeld ?_
  rotate_left
  · intro w hSw
    go_simp
    try with_reducible rfl
  try simp only [Act.put, List.setIfInBounds_toArray, List.set_cons_zero, List.set_cons_succ]
  refine wpAnyH_take (i := 3) (oi := ⟨some 26, _, _, _, _, _⟩) (v := ?_) rfl (by kernel_rfl) (by kernel_rfl) (by kernel_rfl) (fun _ _ _ h => h) (Or.inl ⟨by rfl, ?_⟩) hHeld ?_
  rotate_left
  · intro w hSw
    obtain ⟨k0, k1⟩ := HL4.out w _ hSw (by decide) (by decide)
    go_simp
    try with_reducible rfl
  try simp only [Act.put, List.setIfInBounds_toArray, List.set_cons_zero, List.set_cons_succ]
  refine wpAnyH_take (i := 4) (oi := ⟨some 27, _, _, _, _, _⟩) (v := ?_) rfl (by kernel_rfl) (by kernel_rfl) (by kernel_rfl) (fun _ _ _ h => h) (Or.inl ⟨by rfl, ?_⟩) hHeld ?_
  rotate_left
  · intro w hSw
    go_simp
    try with_reducible rfl
  try simp only [Act.put, List.setIfInBounds_toArray, List.set_cons_zero, List.set_cons_succ]
  refine wpAnyH_take (i := 5) (oi := ⟨some 28, _, _, _, _, _⟩) (v := ?_) rfl (by kernel_rfl) (by kernel_rfl) (by kernel_rfl) (fun _ _ _ h => h) (Or.inl ⟨by rfl, ?_⟩) hHeld ?_
  rotate_left
  · intro w hSw
    go_simp
    try with_reducible rfl
  try simp only [Act.put, List.setIfInBounds_toArray, List.set_cons_zero, List.set_cons_succ]
  refine wpAnyH_take (i := 6) (oi := ⟨some 29, _, _, _, _, _⟩) (v := ?_) rfl (by kernel_rfl) (by kernel_rfl) (by kernel_rfl) (fun _ _ _ h => h) (Or.inl ⟨by rfl, ?_⟩) hHeld ?_
  rotate_left
  · intro w hSw
    obtain ⟨k0, k1⟩ := HL4.out w _ hSw (by decide) (by decide)
    go_simp
    try with_reducible rfl
  try simp only [Act.put, List.setIfInBounds_toArray, List.set_cons_zero, List.set_cons_succ]
  refine wpAnyH_ready (rs := [7]) (by kernel_rfl) (by simp) ?_
  refine AllReadyH.cons rfl (fun K hK => ?_) AllReadyH.nil
  go_simp
  go_wp2_with (go_at_call 137; go_must (refine (CU.out _ HP4.out.drew).mono ?_; rintro e w7 ⟨⟨_, rfl⟩, hP7, hT7⟩))
  refine hK.out _ _ (hHeld.trans hT7) (fun hHeld => ?_)
  clear hK K
  refine wpAnyH_done (by kernel_rfl) ?_ _
  have HP5 := Lib.hid hP7
  have HX5 := Lib.hid (HNI.out hHeld (by decide) HVB.out HX4.out)
  have HR5 := Lib.hid (HNI.out hHeld (by decide) (Nat.le_refl _) HR4.out)
  have T5 : Hid (Tur A.tg [3, 4, 5, 6, 7] w w7) := Lib.hid (T4.out.trans (hHeld.sub (by simp)))
  clear hHeld hP7 hT7 HL4 HX4 HR4 HP4 T4 CU
  have hld := pkt_load HX5.out HPK.out
  go_wp2_with ((with_reducible refine arm_load 33 8 68 (.pointer (some ⟨vb, 0, none⟩)) (.agg x) hld ?_ ?_); rfl)
  refine (CN.out _ HP5.out).mono ?_
  rintro e w8 ⟨rfl, hP8, hT8⟩
  have HP8 := Lib.hid hP8
  have HX8 := Lib.hid (HNI.out hT8 (by decide) HVB.out HX5.out)
  have HR8 := Lib.hid (HNI.out hT8 (by decide) (Nat.le_refl _) HR5.out)
  have T8 : Hid (Tur A.tg [3, 4, 5, 6, 7] w w8) := Lib.hid (T5.out.trans (hT8.sub (by simp)))
  have k21 := HP8.out.c21
  clear hP8 hT8 hld HX5 HR5 HP5 T5 CN
  go_wp2_with fail
  refine (CE.out _ HP8.out).mono ?_
  rintro e w9 ⟨rfl, rfl⟩
  have fin : ∀ w10, Pol w10 A F S4 → w10.heap[vb]? = some (.cells x 68 (0, 0)) → (∃ C : Array Value, C.size = 46 ∧ w10.heap[w.heap.size]? = some (.cells C 68 (0, 0))) → Tur A.tg [3, 4, 5, 6, 7] w w10 → (w10.setCells w.heap.size 0 x.toList).heap[w.heap.size]? = some (.cells x 68 (0, 0)) ∧ Pol (w10.setCells w.heap.size 0 x.toList) A F S4 ∧ Tur A.tg [3, 4, 5, 6, 7] w (w10.setCells w.heap.size 0 x.toList) := by
    rintro w10 q - ⟨C, hC, hb⟩ t
    have p : Tur A.tg [0] w10 (w10.setCells w.heap.size 0 x.toList) := Tur.of_two (Two.setCells (g := w.heap.size) (h := w.heap.size) (.inl rfl) x.toList 0 (Two.refl _ _ w10)) (by rw [HO.out.hi _ HLI.out]; simp) (by rw [HO.out.hi _ HLI.out]; simp)
    exact ⟨box_whole hb (cs := x) (by rw [HPK.out.size, hC]), q.tur p (by intro k h1 h2; simp; omega), t.fresh (Nat.le_refl _) _ _⟩
  have FIN := Lib.hid fin
  clear fin
  by_cases hl0 : l = []
  · have hlen : l.length = 0 := by rw [hl0]; rfl
    have k23 := HP8.out.c23
    have CZ2 := Lib.hid (CZ.out hl0 _ HP8.out)
    clear hl0
    rw [hlen]
    go_wp2_with fail
    refine CZ2.out.mono ?_
    rintro e w10 ⟨rfl, hP10, hT10⟩
    have HX10 := Lib.hid (HNI.out hT10 (by decide) HVB.out HX8.out)
    have HR10 := Lib.hid (HNI.out hT10 (by decide) (Nat.le_refl _) HR8.out)
    have FI := Lib.hid (FIN.out w10 hP10 HX10.out ⟨PZ, rfl, HR10.out⟩ (T8.out.trans (hT10.sub (by simp))))
    have hld := pkt_load HX10.out HPK.out
    have hst := pkt_store HR10.out HPK.out
    clear hP10 hT10 k21 k23 CZ2
    go_wp2_with (first | ((with_reducible refine arm_load 48 8 68 (.pointer (some ⟨vb, 0, none⟩)) (.agg x) hld ?_ ?_); rfl) | ((with_reducible refine arm_store 6 48 68 (.pointer (some ⟨w.heap.size, 0, none⟩)) (.agg x) _ hst ?_ ?_ ?_); rfl; rfl))
    refine bodyPost_ret (res_row_tmp rfl _ _ _ _ _ _ _ rfl FI.out.1 Tryz.underlying68 rfl (by rw [pkt_size, HPK.out.size])) rfl ?_
    exact ⟨rfl, FI.out.2.1, FI.out.2.2⟩
  · have hlen : l.length ≠ 0 := fun e => hl0 (List.length_eq_zero_iff.1 e)
    have hP9 := HP8.out
    rw [← HEQ.out hl0] at hP9
    have FI := Lib.hid (FIN.out _ hP9 HX8.out ⟨PZ, rfl, HR8.out⟩ T8.out)
    have hld := pkt_load HX8.out HPK.out
    have hst := pkt_store HR8.out HPK.out
    obtain ⟨ll, hll⟩ : ∃ ll, ll = l.length := ⟨_, rfl⟩
    rw [← hll] at hlen ⊢
    have hlI : ((ll : Nat) : Int) ≠ 0 := by omega
    clear hP9 k21 hl0 hll
    go_wp2_with (first | ((with_reducible refine arm_load 48 8 68 (.pointer (some ⟨vb, 0, none⟩)) (.agg x) hld ?_ ?_); rfl) | ((with_reducible refine arm_store 6 48 68 (.pointer (some ⟨w.heap.size, 0, none⟩)) (.agg x) _ hst ?_ ?_ ?_); rfl; rfl))
    refine bodyPost_ret (res_row_tmp rfl _ _ _ _ _ _ _ rfl FI.out.1 Tryz.underlying68 rfl (by rw [pkt_size, HPK.out.size])) rfl ?_
    exact ⟨rfl, FI.out.2.1, FI.out.2.2⟩
end
end Go.Proofs.YtpanmfdbdgecaaaGreat.C

namespace Go.Proofs.YtpanmfdbdgecaaaGreat.C
open Go.RowKit
set_option linter.unusedVariables false
/-- A class's packets. -/
def clsS (L : List (List (Array Value))) (c : Int) : List (Array Value) := if 0 ≤ c then L.getD c.toNat [] else []
theorem clsS_some {L : List (List (Array Value))} {c : Nat} {l : List (Array Value)} (hl : L[c]? = some l) : clsS L (c : Nat) = l := by
  unfold clsS
  rw [if_pos (by omega), Int.toNat_natCast, List.getD_eq_getElem?_getD, hl]
  rfl
theorem clsS_out {L : List (List (Array Value))} {c : Int} (h : ¬ (0 ≤ c ∧ c < L.length)) : clsS L c = [] := by
  unfold clsS
  by_cases h0 : 0 ≤ c
  · rw [if_pos h0, List.getD_eq_getElem?_getD, List.getElem?_eq_none (by omega)]
    rfl
  · rw [if_neg h0]
theorem clsS_at {L : List (List (Array Value))} (c : Int) (k : Nat) : atS L c (k : Nat) = (clsS L c)[k]? := by
  by_cases hc : 0 ≤ c ∧ c < L.length
  · obtain ⟨c, rfl⟩ := Int.eq_ofNat_of_zero_le hc.1
    obtain ⟨l, hl⟩ : ∃ l, L[c]? = some l := ⟨_, List.getElem?_eq_getElem (by omega)⟩
    rw [clsS_some hl, atS_some hl]
  · rw [clsS_out hc]
    unfold atS
    by_cases h0 : 0 ≤ c
    · rw [if_pos (by omega), List.getElem?_eq_none (by omega)]
      simp
    · rw [if_neg (by omega)]
      simp
section
variable {w : World} {a : Adr} {L : List (List (Array Value))} {R : Nat}
theorem st_len_any (c : Int) (h : Sto w a L R) :
    Calls Tryz.prog 43 #[.pointer (some ⟨a.sb, 0, none⟩), .int .i64 c] w fun e w' => e = .returned (.int .i64 ((clsS L c).length : Nat)) ∧ w' = w := by
  by_cases hc : 0 ≤ c ∧ c < L.length
  · obtain ⟨c, rfl⟩ := Int.eq_ofNat_of_zero_le hc.1
    obtain ⟨l, hl⟩ : ∃ l, L[c]? = some l := ⟨_, List.getElem?_eq_getElem (by omega)⟩
    rw [clsS_some hl]
    exact st_len c l h hl
  · rw [clsS_out hc]
    exact st_len_no c h hc
theorem cls_len (c : Int) (h : Sto w a L R) : (clsS L c).length ≤ 4096 ∧ ∀ x ∈ clsS L c, Pk x ∧ x[45]? = some (.int .i64 (lenP x)) ∧ 1 ≤ lenP x ∧ lenP x ≤ 9216 := by
  refine ⟨?_, fun x hx => ?_⟩
  · by_cases hc : 0 ≤ c ∧ c < L.length
    · obtain ⟨c, rfl⟩ := Int.eq_ofNat_of_zero_le hc.1
      obtain ⟨l, hl⟩ : ∃ l, L[c]? = some l := ⟨_, List.getElem?_eq_getElem (by omega)⟩
      rw [clsS_some hl]
      obtain ⟨A, fl, Q, hS⟩ := h
      have := total_le L l (List.mem_of_getElem? hl)
      have := hS.len
      omega
    · rw [clsS_out hc]
      simp
  · obtain ⟨k, hk⟩ := List.getElem?_of_mem hx
    rw [← clsS_at] at hk
    exact atS_pk h hk
end
end Go.Proofs.YtpanmfdbdgecaaaGreat.C

namespace Go.Proofs.YtpanmfdbdgecaaaGreat.C
open Go.RowKit
set_option linter.unusedVariables false
end Go.Proofs.YtpanmfdbdgecaaaGreat.C

namespace Go.Proofs.YtpanmfdbdgecaaaGreat.C
open Go.RowKit
set_option linter.unusedVariables false
section
variable {w : World} {A : PAd} {F : PCf} {S : PSt}
end
end Go.Proofs.YtpanmfdbdgecaaaGreat.C

namespace Go.Proofs.YtpanmfdbdgecaaaGreat.C
open Go.RowKit
set_option linter.unusedVariables false
section
variable {w : World} {A : PAd} {F : PCf} {S S1 S2 S3 S4 : PSt}
end
end Go.Proofs.YtpanmfdbdgecaaaGreat.C

namespace Go.Proofs.YtpanmfdbdgecaaaGreat.C
open Go.RowKit
set_option linter.unusedVariables false
end Go.Proofs.YtpanmfdbdgecaaaGreat.C

namespace Go.Proofs.YtpanmfdbdgecaaaGreat.C
open Go.RowKit
set_option linter.unusedVariables false
/-- Four numbers, as an array. -/
structure V4 (w : World) (sb : Nat) (a b c d : Int) : Prop where
  row : w.heap[sb]? = some (.cells #[.int .u64 a, .int .u64 b, .int .u64 c, .int .u64 d] 310 (0, 0))
section
variable {w : World} {sb : Nat} {a b c d : Int}
theorem V4.cells (h : V4 w sb a b c d) : w.cell? ⟨sb, 0, none⟩ = some (.int .u64 a) ∧ w.cell? ⟨sb, 1, none⟩ = some (.int .u64 b) ∧ w.cell? ⟨sb, 2, none⟩ = some (.int .u64 c) ∧ w.cell? ⟨sb, 3, none⟩ = some (.int .u64 d) ∧ w.frozen? ⟨sb, 0, none⟩ = false ∧ w.frozen? ⟨sb, 1, none⟩ = false ∧ w.frozen? ⟨sb, 2, none⟩ = false ∧ w.frozen? ⟨sb, 3, none⟩ = false := by
  rw [cell_of_row _ _ _ _ _ _ h.row, cell_of_row _ _ _ _ _ _ h.row, cell_of_row _ _ _ _ _ _ h.row, cell_of_row _ _ _ _ _ _ h.row]
  exact ⟨rfl, rfl, rfl, rfl, frozen_of_row _ _ _ _ _ h.row, frozen_of_row _ _ _ _ _ h.row, frozen_of_row _ _ _ _ _ h.row, frozen_of_row _ _ _ _ _ h.row⟩
theorem V4.drew (h : V4 w sb a b c d) : V4 w.drew sb a b c d := ⟨h.row⟩
theorem V4.set0 (h : V4 w sb a b c d) (x : Int) : V4 (w.setCell ⟨sb, 0, none⟩ (.int .u64 x)) sb x b c d := ⟨heap_setCell_same _ _ 0 _ _ _ h.row⟩
theorem V4.set1 (h : V4 w sb a b c d) (x : Int) : V4 (w.setCell ⟨sb, 1, none⟩ (.int .u64 x)) sb a x c d := ⟨heap_setCell_same _ _ 1 _ _ _ h.row⟩
theorem V4.set2 (h : V4 w sb a b c d) (x : Int) : V4 (w.setCell ⟨sb, 2, none⟩ (.int .u64 x)) sb a b x d := ⟨heap_setCell_same _ _ 2 _ _ _ h.row⟩
theorem V4.set3 (h : V4 w sb a b c d) (x : Int) : V4 (w.setCell ⟨sb, 3, none⟩ (.int .u64 x)) sb a b c x := ⟨heap_setCell_same _ _ 3 _ _ _ h.row⟩
theorem V4.below {w' : World} (h : V4 w sb a b c d) (p : Below w.heap.size w w') : V4 w' sb a b c d := ⟨keep_block p h.row⟩
theorem V4.load (h : V4 w sb a b c d) : (Instr.loadAt 310 (.pointer (some ⟨sb, 0, none⟩))).run Tryz.prog w = .ok (.agg #[.int .u64 a, .int .u64 b, .int .u64 c, .int .u64 d]) w := box_load (t := 310) h.row _ Tryz.underlying310 rfl (by kernel_rfl)
end
end Go.Proofs.YtpanmfdbdgecaaaGreat.C

namespace Go.Proofs.YtpanmfdbdgecaaaGreat.C
open Go.RowKit
set_option linter.unusedVariables false
end Go.Proofs.YtpanmfdbdgecaaaGreat.C

namespace Go.Proofs.YtpanmfdbdgecaaaGreat.C
open Go.RowKit
set_option linter.unusedVariables false
end Go.Proofs.YtpanmfdbdgecaaaGreat.C

namespace Go.Proofs.YtpanmfdbdgecaaaGreat.C
open Go.RowKit
set_option linter.unusedVariables false
end Go.Proofs.YtpanmfdbdgecaaaGreat.C

namespace Go.Proofs.YtpanmfdbdgecaaaGreat.C
open Go.RowKit
set_option linter.unusedVariables false
def flZ : Array Value := ([Value.bool false, .int .u8 0] ++ List.replicate 32 (Value.int .u8 0) ++ [Value.int .u16 0, Value.int .u16 0]).toArray
def flB : Array Value := ([Value.bool false, .int .u8 17] ++ List.replicate 32 (Value.int .u8 0) ++ [Value.int .u16 1000, Value.int .u16 53]).toArray
theorem flq_zero : (Tryz.prog.info? 58).map (fun i => (i.zero, i.size)) = some (some (.agg flZ), 36) := by kernel_rfl
theorem fl_build (w : World) : (Instr.build 58 #[(1, .int .u8 17), (4, .int .u16 1000), (5, .int .u16 53)]).run Tryz.prog w = .ok (.agg flB) w := run_build w 58 _ _ (by kernel_rfl)
theorem fl_set (n : Nat) : ((((flB.setIfInBounds 2 (.int .u8 10)).setIfInBounds 3 (.int .u8 1)).setIfInBounds 4 (.int .u8 (n : Nat))).setIfInBounds 5 (.int .u8 7)).setIfInBounds 18 (.int .u8 9) = flowX 10 1 n 7 9 0 0 0 1000 53 := by kernel_rfl
set_option maxRecDepth 100000 in
theorem flow_is (n : Nat) (w : World) : Calls Tryz.prog 18 #[.int .u8 (n : Nat)] w fun e w' => e = .returned (.agg (flowX 10 1 n 7 9 0 0 0 1000 53)) ∧ Below w.heap.size w w' := by
  have hz := flq_zero
  have hb := fl_build
  have hzs : flZ.size = 36 := rfl
  have hbs : flB.size = 36 := rfl
  have hba : flB.all (·.oneCell') = true := by kernel_rfl
  have hset := fl_set n
  have hxs : (flowX 10 1 n 7 9 0 0 0 1000 53).size = 36 := rfl
  have hxa : (flowX 10 1 n 7 9 0 0 0 1000 53).all (·.oneCell') = true := flow_all _ _ _ _ _ _ _ _ _ _
  have g2 : flB[2]? = some (.int .u8 0) := rfl
  have g3 : flB[3]? = some (.int .u8 0) := rfl
  have g4 : flB[4]? = some (.int .u8 0) := rfl
  have g5 : flB[5]? = some (.int .u8 0) := rfl
  have g18 : flB[18]? = some (.int .u8 0) := rfl
  generalize flowX 10 1 n 7 9 0 0 0 1000 53 = X at *
  generalize flB = FB at *
  generalize flZ = Z at *
  have HZ := Lib.hid hz
  have HZS := Lib.hid hzs
  have HBS := Lib.hid hbs
  have HBA := Lib.hid hba
  have HSET := Lib.hid hset
  have HXS := Lib.hid hxs
  have HXA := Lib.hid hxa
  have HG := Lib.hid (And.intro g2 (And.intro g3 (And.intro g4 (And.intro g5 g18))))
  have hfi := flow_info
  clear hz hzs hbs hba hset hxs hxa g2 g3 g4 g5 g18
  go_enter Tryz.func18, Tryz.ntmps18
  go_upto_region 2 with (first
    | ((with_reducible refine arm_alloc 2 58 Z 36 HZ.out ?_); intro w1 HB1 HX1 HS1)
    | ((with_reducible refine arm_build 4 58 _ #[(1, .int .u8 17), (4, .int .u16 1000), (5, .int .u16 53)] _ (hb _) ?_ ?_); (first | rfl | simp [Act.eval]))
    | ((with_reducible refine arm_alloc 3 58 Z 36 HZ.out ?_); intro w2 HB2 HX2 HS2; have hst := box_store (t := 58) (x := FB) HX2.out (by rw [HBS.out]; exact flow_info) HBA.out (HZS.out.trans HBS.out.symm))
    | ((with_reducible refine arm_store 3 4 58 _ _ _ hst ?_ ?_ ?_); rfl; rfl))
  have hX3 := box_whole (cs := FB) HX2.out (HBS.out.trans HZS.out.symm)
  have hB3 := below_setCells (b := w1.heap.size) (Nat.le_refl _) FB.toList 0 HB2.out
  have hR3 := keep_block hB3 HX1.out
  have hB3' := HB1.out.trans (hB3.mono HB1.out.size)
  have hlt : w.heap.size < w1.heap.size := (Array.getElem?_eq_some_iff.1 HX1.out).1
  clear hst HB1 HX1 HS1 HB2 HX2 HS2 hB3
  generalize w2.setCells w1.heap.size 0 FB.toList = w3 at *
  obtain ⟨cb, hcb⟩ : ∃ k, k = w1.heap.size := ⟨_, rfl⟩
  obtain ⟨rb, hrb⟩ : ∃ k, k = w.heap.size := ⟨_, rfl⟩
  have HCB := Lib.hid (show w.heap.size ≤ cb by omega)
  have HNE := Lib.hid (show rb ≠ cb by omega)
  have HRB := Lib.hid hrb
  rw [← hcb] at hX3 ⊢
  rw [← hrb] at hR3 ⊢
  clear hlt hcb hrb
  obtain ⟨g2, g3, g4, g5, g18⟩ := HG.out
  have c2 := cells_of_row hX3 2 _ g2
  have c3 := cells_of_row hX3 3 _ g3
  have c4 := cells_of_row hX3 4 _ g4
  have c5 := cells_of_row hX3 5 _ g5
  have c18 := cells_of_row hX3 18 _ g18
  have f2 := frozen_of_row _ _ 2 _ _ hX3
  have f3 := frozen_of_row _ _ 3 _ _ hX3
  have f4 := frozen_of_row _ _ 4 _ _ hX3
  have f5 := frozen_of_row _ _ 5 _ _ hX3
  have f18 := frozen_of_row _ _ 18 _ _ hX3
  have hX4 := heap_setCell_same _ _ 18 _ _ (.int .u8 9) (heap_setCell_same _ _ 5 _ _ (.int .u8 7) (heap_setCell_same _ _ 4 _ _ (.int .u8 (n : Nat)) (heap_setCell_same _ _ 3 _ _ (.int .u8 1) (heap_setCell_same _ _ 2 _ _ (.int .u8 10) hX3))))
  have hR4 := (heap_setCell_other _ ⟨cb, 18, none⟩ _ (.int .u8 9) HNE.out).trans ((heap_setCell_other _ ⟨cb, 5, none⟩ _ (.int .u8 7) HNE.out).trans ((heap_setCell_other _ ⟨cb, 4, none⟩ _ (.int .u8 (n : Nat)) HNE.out).trans ((heap_setCell_other _ ⟨cb, 3, none⟩ _ (.int .u8 1) HNE.out).trans ((heap_setCell_other w3 ⟨cb, 2, none⟩ _ (.int .u8 10) HNE.out).trans hR3))))
  have hB4 := ((((hB3'.setCell (p := ⟨cb, 2, none⟩) HCB.out (.int .u8 10)).setCell (p := ⟨cb, 3, none⟩) HCB.out (.int .u8 1)).setCell (p := ⟨cb, 4, none⟩) HCB.out (.int .u8 (n : Nat))).setCell (p := ⟨cb, 5, none⟩) HCB.out (.int .u8 7)).setCell (p := ⟨cb, 18, none⟩) HCB.out (.int .u8 9)
  rw [HSET.out] at hX4
  have HX4 := Lib.hid hX4
  have HR4 := Lib.hid hR4
  have HB4 := Lib.hid hB4
  clear hX4 hR4 hB4 hX3 hR3 hB3' g2 g3 g4 g5 g18
  go_upto_region 3 with (fail)
  clear c2 c3 c4 c5 c18 f2 f3 f4 f5 f18
  generalize ((((w3.setCell ⟨cb, 2, none⟩ (.int .u8 10)).setCell ⟨cb, 3, none⟩ (.int .u8 1)).setCell ⟨cb, 4, none⟩ (.int .u8 (n : Nat))).setCell ⟨cb, 5, none⟩ (.int .u8 7)).setCell ⟨cb, 18, none⟩ (.int .u8 9) = w4 at *
  have hld := box_load (t := 58) HX4.out _ Tryz.underlying58 rfl (by rw [HXS.out]; exact flow_info)
  have hst := box_store (t := 58) (x := X) HR4.out (by rw [HXS.out]; exact flow_info) HXA.out (HZS.out.trans HXS.out.symm)
  have hbx := Lib.hid (box_whole (cs := X) HR4.out (HXS.out.trans HZS.out.symm))
  have hfb := Lib.hid (below_setCells (b := rb) (Nat.le_of_eq HRB.out.symm) X.toList 0 HB4.out)
  go_wp2_with (first | ((with_reducible refine arm_load 16 3 58 _ _ hld ?_ ?_); rfl) | ((with_reducible refine arm_store 2 16 58 _ _ _ hst ?_ ?_ ?_); rfl; rfl))
  refine bodyPost_ret (results_cell_row rfl _ _ _ _ _ _ _ rfl hbx.out Tryz.underlying58 rfl (by rw [HXS.out]; exact flow_info)) rfl ?_
  exact ⟨rfl, hfb.out⟩
end Go.Proofs.YtpanmfdbdgecaaaGreat.C

namespace Go.Proofs.YtpanmfdbdgecaaaGreat.C
open Go.RowKit
set_option linter.unusedVariables false
/-- The bytes of the key of a number's flow. -/
def kF (n : Nat) : Nat → Nat := keyF 10 1 n 7 9 0 0 0
end Go.Proofs.YtpanmfdbdgecaaaGreat.C

namespace Go.Proofs.YtpanmfdbdgecaaaGreat.C
open Go.RowKit
set_option linter.unusedVariables false
/-- The quota's numbers behind so many joinings and leavings. -/
structure InvT (m : Int) (k : Nat) (s : Int) (l : List Int) : Prop where
  s0 : -((k : Int) * 9216) ≤ s
  s1 : s ≤ m
  len : l.length ≤ 129
  l0 : ∀ x ∈ l, 0 ≤ x ∧ x ≤ (k : Int) * 9216
section
variable {r m s n : Int} {l : List Int} {k c : Nat}
theorem InvT.ok (h : InvT m k s l) (hr : 0 ≤ r ∧ r ≤ 1073741824) (hm : 0 ≤ m ∧ m ≤ 1073741824) (hk : k ≤ 1000) : QU.QOk r m s l :=
  ⟨hr.1, hr.2, hm.1, hm.2, by have := h.s0; omega, by have := h.s1; omega, h.len, fun x hx => by have := h.l0 x hx; omega⟩
theorem InvT.up (h : InvT m k s l) : InvT m (k + 1) s l := ⟨by have := h.s0; omega, h.s1, h.len, fun x hx => by have := h.l0 x hx; omega⟩
theorem InvT.get (h : InvT m k s l) (c : Nat) : 0 ≤ l.getD c 0 ∧ l.getD c 0 ≤ (k : Int) * 9216 := by
  rw [List.getD_eq_getElem?_getD]
  cases hx : l[c]? with
  | none => simp; omega
  | some x => simpa using h.l0 x (List.mem_of_getElem? hx)
theorem InvT.add (h : InvT m k s l) (hn : 0 ≤ n ∧ n ≤ 9216) : InvT m (k + 1) (QU.addS r m s l (c : Nat) n) (QU.addL r m s l (c : Nat) n) := by
  unfold QU.addS QU.addL
  cases hf : QU.fitsB r m s l (c : Nat) n with
  | false => exact h.up
  | true =>
    obtain ⟨h1, h2, h3, h4, h5⟩ := QU.fits_in hf
    have g := h.get (c : Int).toNat
    have hs := h.s0
    refine ⟨?_, h5, ?_, fun x hx => ?_⟩
    · show _ ≤ QU.putS r s l (c : Nat) n
      unfold QU.putS QU.moreQ
      have := QU.overQ_mono (r := r) (show l.getD (c : Int).toNat 0 ≤ l.getD (c : Int).toNat 0 + n by omega)
      omega
    · show (QU.putL l (c : Nat) n).length ≤ 129
      unfold QU.putL
      rw [List.length_set]
      exact h.len
    · have hx' : x ∈ QU.putL l (c : Nat) n := hx
      unfold QU.putL at hx'
      rcases QU.mem_set hx' with rfl | hx'
      · omega
      · have := h.l0 x hx'
        omega
theorem InvT.sub (h : InvT m k s l) (hn : 0 ≤ n ∧ n ≤ 9216) : InvT m (k + 1) (QU.subS r s l (c : Nat) n) (QU.subL l (c : Nat) n) := by
  unfold QU.subS QU.subL
  cases hf : QU.takesB l (c : Nat) n with
  | false => exact h.up
  | true =>
    have h3 : n ≤ l.getD (c : Int).toNat 0 := by
      unfold QU.takesB at hf
      simp only [Bool.and_eq_true, decide_eq_true_eq] at hf
      exact hf.2
    have g := h.get (c : Int).toNat
    have hs := h.s0
    have hs1 := h.s1
    have o1 := QU.overQ_mono (r := r) (show l.getD (c : Int).toNat 0 + -n ≤ l.getD (c : Int).toNat 0 by omega)
    have o2 := QU.overQ_le (r := r) (show l.getD (c : Int).toNat 0 + -n ≤ l.getD (c : Int).toNat 0 by omega)
    refine ⟨?_, ?_, ?_, fun x hx => ?_⟩
    · show _ ≤ QU.putS r s l (c : Nat) (-n)
      unfold QU.putS QU.moreQ
      omega
    · show QU.putS r s l (c : Nat) (-n) ≤ m
      unfold QU.putS QU.moreQ
      omega
    · show (QU.putL l (c : Nat) (-n)).length ≤ 129
      unfold QU.putL
      rw [List.length_set]
      exact h.len
    · have hx' : x ∈ QU.putL l (c : Nat) (-n) := hx
      unfold QU.putL at hx'
      rcases QU.mem_set hx' with rfl | hx'
      · omega
      · have := h.l0 x hx'
        omega
end
/-- Whose turn it is, and who is awake. -/
structure TurnsOk (tl : List Tcl) (line : List Nat) : Prop where
  nd : line.Nodup
  aw : ∀ c ∈ line, ∃ y, tl[c]? = some y ∧ y.awake = true
  inl : ∀ (c : Nat) (y : Tcl), tl[c]? = some y → y.awake = true → c ∈ line
  ln : line.length = tl.countP (·.awake)
theorem TurnsOk.wake {tl : List Tcl} {line : List Nat} (h : TurnsOk tl line) (c : Nat) : TurnsOk (wakeT tl line c).1 (wakeT tl line c).2 := by
  have hc := wake_count tl line c h.ln
  unfold wakeT at hc ⊢
  cases hx : tl[c]? with
  | none => exact h
  | some x =>
    rw [hx] at hc
    simp only at hc ⊢
    cases ha : x.awake with
    | true =>
      simp only [if_true]
      exact h
    | false =>
      rw [ha] at hc
      simp only [Bool.false_eq_true, if_false] at hc ⊢
      have hcl := lt_of_some hx
      have hni : c ∉ line := fun hm => by
        obtain ⟨y, h1, h2⟩ := h.aw c hm
        rw [hx] at h1
        injection h1 with h1
        subst h1
        rw [ha] at h2
        cases h2
      refine ⟨?_, fun d hd => ?_, fun d y hd hy => ?_, hc⟩
      · rw [List.nodup_append]
        refine ⟨h.nd, by simp, fun a ha' b hb => ?_⟩
        rw [List.mem_singleton.1 hb]
        intro e
        subst e
        exact hni ha'
      · rcases List.mem_append.1 hd with hd | hd
        · obtain ⟨y, h1, h2⟩ := h.aw d hd
          have hne : c ≠ d := fun e => hni (e ▸ hd)
          exact ⟨y, by rw [List.getElem?_set_ne hne]; exact h1, h2⟩
        · rw [List.mem_singleton.1 hd]
          exact ⟨⟨true, true, 0⟩, List.getElem?_set_self hcl, rfl⟩
      · by_cases e : c = d
        · subst e
          simp
        · rw [List.getElem?_set_ne e] at hd
          exact List.mem_append.2 (.inl (h.inl d y hd hy))
theorem wake_keep {tl : List Tcl} {line : List Nat} {c d : Nat} (h : d ≠ c) : (wakeT tl line c).1[d]? = tl[d]? := by
  unfold wakeT
  split
  · split
    · rfl
    · exact List.getElem?_set_ne (fun e => h e.symm)
  · rfl
theorem wakeV_len (tl : List Tcl) (line : List Nat) (c : Nat) : (wakeT tl line c).1.length = tl.length := by
  unfold wakeT
  split
  · split
    · rfl
    · simp
  · rfl
theorem TurnsOk.sleep {tl : List Tcl} {line : List Nat} (h : TurnsOk tl line) {c j : Nat} (hj : line[j]? = some c) : TurnsOk (tl.set c ⟨false, false, 0⟩) (line.eraseIdx j) := by
  have hjl := lt_of_some hj
  obtain ⟨y, hy, hya⟩ := h.aw c (List.mem_of_getElem? hj)
  have hcl := lt_of_some hy
  have hmem : ∀ d, d ∈ line.eraseIdx j → d ∈ line ∧ d ≠ c := fun d hd => by
    obtain ⟨i, hi⟩ := List.getElem?_of_mem hd
    rw [erase_at] at hi
    by_cases hij : i < j
    · rw [if_pos hij] at hi
      exact ⟨List.mem_of_getElem? hi, fun e => by have := nodup_at h.nd (e ▸ hi) hj; omega⟩
    · rw [if_neg hij] at hi
      exact ⟨List.mem_of_getElem? hi, fun e => by have := nodup_at h.nd (e ▸ hi) hj; omega⟩
  have hin : ∀ d, d ∈ line → d ≠ c → d ∈ line.eraseIdx j := fun d hd hne => by
    obtain ⟨i, hi⟩ := List.getElem?_of_mem hd
    have hij : i ≠ j := fun e => by
      subst e
      rw [hj] at hi
      injection hi with hi
      exact hne hi.symm
    rcases Nat.lt_or_gt_of_ne hij with h1 | h1
    · exact List.mem_of_getElem? (i := i) (by rw [erase_at, if_pos h1]; exact hi)
    · exact List.mem_of_getElem? (i := i - 1) (by rw [erase_at, if_neg (by omega), show i - 1 + 1 = i by omega]; exact hi)
  refine ⟨h.nd.sublist (List.eraseIdx_sublist _ _), fun d hd => ?_, fun d z hd hz => ?_, ?_⟩
  · obtain ⟨h1, h2⟩ := hmem d hd
    obtain ⟨z, h3, h4⟩ := h.aw d h1
    exact ⟨z, by rw [List.getElem?_set_ne (fun e => h2 e.symm)]; exact h3, h4⟩
  · by_cases e : c = d
    · subst e
      rw [List.getElem?_set_self hcl] at hd
      injection hd with hd
      subst hd
      cases hz
    · rw [List.getElem?_set_ne e] at hd
      exact hin d (h.inl d z hd hz) (fun e2 => e e2.symm)
  · rw [List.length_eraseIdx_of_lt hjl, List.countP_set hcl, h.ln]
    have e : tl[c] = y := by
      rw [List.getElem?_eq_getElem hcl] at hy
      injection hy
    rw [e, hya]
    simp
end Go.Proofs.YtpanmfdbdgecaaaGreat.C

namespace Go.Proofs.YtpanmfdbdgecaaaGreat.C
open Go.RowKit
set_option linter.unusedVariables false
/-- A class's turns. -/
def tcl (tl : List Tcl) (c : Nat) : Tcl := tl.getD c ⟨false, false, 0⟩
theorem tcl_at {tl : List Tcl} {c : Nat} {y : Tcl} (h : tl[c]? = some y) : tcl tl c = y := by
  unfold tcl
  rw [List.getD_eq_getElem?_getD, h]
  rfl
theorem tcl_set {tl : List Tcl} {c : Nat} (h : c < tl.length) (y : Tcl) (d : Nat) : tcl (tl.set c y) d = if c = d then y else tcl tl d := by
  unfold tcl
  rw [List.getD_eq_getElem?_getD, List.getD_eq_getElem?_getD, List.getElem?_set]
  by_cases e : c = d
  · subst e
    simp [h]
  · simp [e]
/-- A class behind its picking. -/
def paid (q : Int) (y : Tcl) (n : Int) : Tcl := ⟨true, false, (if y.fresh then y.deficit + q else y.deficit) - n⟩
/-- Which class is picked, and what becomes of the turns. -/
inductive Picks (q : Int) (hd : Nat → Int) (l : List Tcl) : List Nat → Nat → List Tcl → List Nat → Prop where
  | now (c : Nat) (r : List Nat) (y : Tcl) (hy : l[c]? = some y) (hn : y.fresh = true ∨ hd c ≤ y.deficit) : Picks q hd l (c :: r) c (l.set c (paid q y (hd c))) (c :: r)
  | later (c : Nat) (r : List Nat) (y : Tcl) (c1 : Nat) (r1 : List Nat) (y1 : Tcl) (hy : l[c]? = some y) (hf : y.fresh = false) (hn : y.deficit < hd c) (hr : r ++ [c] = c1 :: r1) (hy1 : (l.set c ⟨true, true, y.deficit⟩)[c1]? = some y1) (hf1 : y1.fresh = true) :
      Picks q hd l (c :: r) c1 ((l.set c ⟨true, true, y.deficit⟩).set c1 (paid q y1 (hd c1))) (c1 :: r1)
/-- What a class has had, what it may still have, and what it will get. -/
def hav (q : Int) (tl : List Tcl) (G : List Int) (c : Nat) : Int := G.getD c 0 + (tcl tl c).deficit + (if (tcl tl c).fresh then q else 0)
/-- All who are awake are served alike. -/
structure Drr (q : Int) (tl : List Tcl) (line : List Nat) (G : List Int) : Prop where
  ord : line.Pairwise (fun a b => hav q tl G a ≤ hav q tl G b ∧ hav q tl G b ≤ hav q tl G a + q)
  d0 : ∀ c ∈ line, 0 ≤ (tcl tl c).deficit
  d1 : ∀ c ∈ line, (tcl tl c).fresh = true → (tcl tl c).deficit ≤ 9216
  d2 : ∀ c ∈ line, (tcl tl c).deficit ≤ q + 9216
  fr : ∀ c ∈ line.tail, (tcl tl c).fresh = true
section
variable {q : Int} {tl : List Tcl} {line : List Nat} {G : List Int}
theorem Drr.bound (h : Drr q tl line G) (hq : 0 ≤ q) {a b : Nat} (ha : a ∈ line) (hb : b ∈ line) : G.getD a 0 - G.getD b 0 ≤ q + 18432 := by
  have a0 := h.d0 a ha
  have b0 := h.d0 b hb
  have a2 := h.d2 a ha
  have b2 := h.d2 b hb
  have a1 := h.d1 a ha
  have b1 := h.d1 b hb
  cases line with
  | nil => simp at ha
  | cons c r =>
    have hp := List.pairwise_cons.1 h.ord
    rcases List.mem_cons.1 ha with rfl | ha'
    · rcases List.mem_cons.1 hb with rfl | hb'
      · omega
      · have o := hp.1 b hb'
        have fb := h.fr b hb'
        have := b1 fb
        unfold hav at o
        rw [if_pos fb] at o
        split at o <;> omega
    · have fa := h.fr a ha'
      have := a1 fa
      rcases List.mem_cons.1 hb with rfl | hb'
      · have o := hp.1 a ha'
        unfold hav at o
        rw [if_pos fa] at o
        split at o
        · rename_i hf
          have := b1 hf
          omega
        · omega
      · have fb := h.fr b hb'
        have := b1 fb
        have o : hav q tl G a ≤ hav q tl G b + q := by
          by_cases e : a = b
          · subst e
            omega
          · obtain ⟨i, hi⟩ := List.getElem?_of_mem ha'
            obtain ⟨j, hj⟩ := List.getElem?_of_mem hb'
            have hpp := List.pairwise_iff_getElem.1 hp.2
            have hi1 := lt_of_some hi
            have hj1 := lt_of_some hj
            rw [List.getElem?_eq_getElem hi1] at hi
            rw [List.getElem?_eq_getElem hj1] at hj
            injection hi with hi
            injection hj with hj
            rcases Nat.lt_trichotomy i j with x | x | x
            · have := hpp i j hi1 hj1 x
              rw [hi, hj] at this
              omega
            · subst x
              rw [hi] at hj
              exact absurd hj e
            · have := hpp j i hj1 hi1 x
              rw [hi, hj] at this
              omega
        unfold hav at o
        rw [if_pos fa, if_pos fb] at o
        omega
/-- The pairs of a line, whose members' numbers stay. -/
theorem pair_cong {R S : Nat → Nat → Prop} (h : line.Pairwise R) (hi : ∀ a b, a ∈ line → b ∈ line → R a b → S a b) : line.Pairwise S :=
  h.imp_of_mem (fun ha hb hr => hi _ _ ha hb hr)
theorem getD_set {G : List Int} {c : Nat} (hc : c < G.length) (v : Int) (d : Nat) : (G.set c v).getD d 0 = if c = d then v else G.getD d 0 := by
  rw [List.getD_eq_getElem?_getD, List.getD_eq_getElem?_getD, List.getElem?_set]
  by_cases e : c = d
  · subst e
    simp [hc]
  · simp [e]
theorem Drr.now {c : Nat} {r : List Nat} {y : Tcl} {n : Int} (h : Drr q tl (c :: r) G) (hnd : (c :: r).Nodup) (hy : tl[c]? = some y) (hc : c < G.length) (hq : 9216 ≤ q) (hn : 1 ≤ n ∧ n ≤ 9216) (hp : y.fresh = true ∨ n ≤ y.deficit) :
    Drr q (tl.set c (paid q y n)) (c :: r) (G.set c (G.getD c 0 + n)) := by
  have hct := lt_of_some hy
  have hyt := tcl_at hy
  have a0 := h.d0 c (by simp)
  have a1 := h.d1 c (by simp)
  have a2 := h.d2 c (by simp)
  rw [hyt] at a0 a1 a2
  have hcr : c ∉ r := (List.nodup_cons.1 hnd).1
  have e : ∀ d, hav q (tl.set c (paid q y n)) (G.set c (G.getD c 0 + n)) d = hav q tl G d := fun d => by
    unfold hav
    rw [tcl_set hct, getD_set hc]
    by_cases e : c = d
    · subst e
      rw [if_pos rfl, if_pos rfl, hyt]
      unfold paid
      cases y.fresh <;> simp <;> omega
    · rw [if_neg e, if_neg e]
  have t : ∀ d ∈ c :: r, tcl (tl.set c (paid q y n)) d = if c = d then paid q y n else tcl tl d := fun d _ => tcl_set hct _ d
  refine ⟨pair_cong h.ord (fun a b _ _ hr => by rw [e, e]; exact hr), fun d hd => ?_, fun d hd hf => ?_, fun d hd => ?_, fun d hd => ?_⟩
  · rw [t d hd]
    split
    · unfold paid
      show 0 ≤ (if y.fresh = true then y.deficit + q else y.deficit) - n
      rcases hp with hp | hp
      · rw [if_pos hp]
        omega
      · split <;> omega
    · exact h.d0 d hd
  · rw [t d hd] at hf ⊢
    split at hf
    · cases hf
    · rename_i e
      rw [if_neg e]
      exact h.d1 d hd hf
  · rw [t d hd]
    split
    · unfold paid
      show (if y.fresh = true then y.deficit + q else y.deficit) - n ≤ q + 9216
      split
      · rename_i hf
        have := a1 hf
        omega
      · omega
    · exact h.d2 d hd
  · have hd' : d ∈ r := hd
    rw [t d (List.mem_cons_of_mem _ hd'), if_neg (fun e => hcr (by rw [e]; exact hd'))]
    exact h.fr d hd
theorem Drr.rot {c : Nat} {r : List Nat} {y : Tcl} (h : Drr q tl (c :: r) G) (hnd : (c :: r).Nodup) (hy : tl[c]? = some y) (hf : y.fresh = false) (hn : y.deficit ≤ 9216) (hq : 0 ≤ q) :
    Drr q (tl.set c ⟨true, true, y.deficit⟩) (r ++ [c]) G := by
  have hct := lt_of_some hy
  have hyt := tcl_at hy
  have hcr : c ∉ r := (List.nodup_cons.1 hnd).1
  have a0 := h.d0 c (by simp)
  rw [hyt] at a0
  have t : ∀ d, tcl (tl.set c ⟨true, true, y.deficit⟩) d = if c = d then ⟨true, true, y.deficit⟩ else tcl tl d := fun d => tcl_set hct _ d
  have e : ∀ d, hav q (tl.set c ⟨true, true, y.deficit⟩) G d = if c = d then hav q tl G d + q else hav q tl G d := fun d => by
    unfold hav
    rw [t]
    by_cases e : c = d
    · subst e
      rw [if_pos rfl, if_pos rfl, hyt, hf]
      simp
    · rw [if_neg e, if_neg e]
  have hp := List.pairwise_cons.1 h.ord
  have hne : ∀ d ∈ r, ¬ c = d := fun d hd e => hcr (by rw [e]; exact hd)
  have mm : ∀ d, d ∈ r ++ [c] → d ∈ c :: r := fun d hd => by
    rcases List.mem_append.1 hd with x | x
    · exact List.mem_cons_of_mem _ x
    · rw [List.mem_singleton.1 x]
      simp
  have ff : ∀ d ∈ r ++ [c], (tcl (tl.set c ⟨true, true, y.deficit⟩) d).fresh = true := fun d hd => by
    rw [t]
    split
    · rfl
    · rename_i e
      rcases List.mem_append.1 hd with x | x
      · exact h.fr d x
      · exact absurd (List.mem_singleton.1 x).symm e
  refine ⟨?_, fun d hd => ?_, fun d hd hf => ?_, fun d hd => ?_, fun d hd => ff d (List.mem_of_mem_tail hd)⟩
  · rw [List.pairwise_append]
    refine ⟨pair_cong hp.2 (fun a b ha hb hr => by rw [e, e, if_neg (hne a ha), if_neg (hne b hb)]; exact hr), List.pairwise_singleton _ _, fun a ha b hb => ?_⟩
    rw [List.mem_singleton.1 hb, e, e, if_neg (hne a ha), if_pos rfl]
    have := hp.1 a ha
    omega
  · rw [t]
    split
    · exact a0
    · exact h.d0 d (mm d hd)
  · rw [t] at hf ⊢
    split
    · exact hn
    · rename_i e
      rw [if_neg e] at hf
      exact h.d1 d (mm d hd) hf
  · rw [t]
    split
    · show y.deficit ≤ q + 9216
      omega
    · exact h.d2 d (mm d hd)
theorem nodup_rot {c : Nat} {r : List Nat} (h : (c :: r).Nodup) : (r ++ [c]).Nodup := by
  rw [List.nodup_cons] at h
  rw [List.nodup_append]
  refine ⟨h.2, by simp, fun a ha b hb e => ?_⟩
  rw [List.mem_singleton] at hb
  subst hb
  subst e
  exact h.1 ha
/-- Behind a pick. -/
theorem Drr.pick {hd : Nat → Int} {c : Nat} {l2 : List Tcl} {line2 : List Nat} (h : Drr q tl line G) (hp : Picks q hd tl line c l2 line2) (hnd : line.Nodup) (hG : ∀ c ∈ line, c < G.length) (hq : 9216 ≤ q) (hh : ∀ c ∈ line, 1 ≤ hd c ∧ hd c ≤ 9216) :
    Drr q l2 line2 (G.set c (G.getD c 0 + hd c)) ∧ line2.Nodup ∧ (∀ d, d ∈ line2 ↔ d ∈ line) ∧ line2.length = line.length ∧ l2.length = tl.length ∧ (∃ r, line2 = c :: r) := by
  cases hp with
  | now _ r y hy hn =>
    exact ⟨h.now hnd hy (hG _ (by simp)) hq (hh _ (by simp)) hn, hnd, fun d => Iff.rfl, rfl, List.length_set, ⟨_, rfl⟩⟩
  | later c0 r y _ r1 y1 hy hf hn hr hy1 hf1 =>
    have hh0 := hh c0 (by simp)
    have h1 := h.rot hnd hy hf (by omega) (by omega)
    have hn1 := nodup_rot hnd
    have mm : ∀ d, d ∈ c :: r1 ↔ d ∈ c0 :: r := fun d => by
      rw [← hr]
      simp only [List.mem_append, List.mem_cons, List.not_mem_nil, or_false]
      exact or_comm
    have hlen : (c :: r1).length = (c0 :: r).length := by rw [← hr]; simp
    rw [hr] at h1 hn1
    exact ⟨h1.now hn1 hy1 (hG _ ((mm c).1 (by simp))) hq (hh _ ((mm c).1 (by simp))) (.inl hf1), hn1, mm, hlen, by rw [List.length_set, List.length_set], ⟨_, rfl⟩⟩
/-- Who is awake stays so. -/
theorem Picks.awake {hd : Nat → Int} {c : Nat} {l2 : List Tcl} {line2 : List Nat} (hp : Picks q hd tl line c l2 line2) (h : ∀ d ∈ line, ∃ y, tl[d]? = some y ∧ y.awake = true) : ∀ d ∈ line, ∃ y, l2[d]? = some y ∧ y.awake = true := fun d hd => by
  obtain ⟨z, hz, za⟩ := h d hd
  have st : ∀ (t : List Tcl) (c : Nat) (y : Tcl), y.awake = true → (∃ z, t[d]? = some z ∧ z.awake = true) → ∃ z, (t.set c y)[d]? = some z ∧ z.awake = true := fun t c y hy ⟨z, h1, h2⟩ => by
    by_cases e : c = d
    · subst e
      exact ⟨y, List.getElem?_set_self (lt_of_some h1), hy⟩
    · exact ⟨z, by rw [List.getElem?_set_ne e]; exact h1, h2⟩
  cases hp with
  | now _ r y hy hn => exact st _ _ _ rfl ⟨z, hz, za⟩
  | later c0 r y _ r1 y1 hy hf hn hr hy1 hf1 => exact st _ _ _ rfl (st _ _ _ rfl ⟨z, hz, za⟩)
/-- Somebody goes to sleep. -/
theorem Drr.sleep (h : Drr q tl line G) (hnd : line.Nodup) {j c : Nat} (hj : line[j]? = some c) (hc : c < tl.length) : Drr q (tl.set c ⟨false, false, 0⟩) (line.eraseIdx j) G := by
  have hne : ∀ d ∈ line.eraseIdx j, ¬ c = d := fun d hd e => by
    subst e
    obtain ⟨i, hi⟩ := List.getElem?_of_mem hd
    rw [erase_at] at hi
    split at hi
    · have := nodup_at hnd hi hj
      omega
    · have := nodup_at hnd hi hj
      omega
  have mm : ∀ d ∈ line.eraseIdx j, d ∈ line := fun d hd => List.mem_of_mem_eraseIdx hd
  have t : ∀ d ∈ line.eraseIdx j, tcl (tl.set c ⟨false, false, 0⟩) d = tcl tl d := fun d hd => by rw [tcl_set hc, if_neg (hne d hd)]
  have e : ∀ d ∈ line.eraseIdx j, hav q (tl.set c ⟨false, false, 0⟩) G d = hav q tl G d := fun d hd => by
    unfold hav
    rw [t d hd]
  refine ⟨pair_cong (h.ord.sublist (List.eraseIdx_sublist _ _)) (fun a b ha hb hr => by rw [e a ha, e b hb]; exact hr), fun d hd => ?_, fun d hd => ?_, fun d hd => ?_, fun d hd => ?_⟩
  · rw [t d hd]
    exact h.d0 d (mm d hd)
  · rw [t d hd]
    exact h.d1 d (mm d hd)
  · rw [t d hd]
    exact h.d2 d (mm d hd)
  · have hd' := List.mem_of_mem_tail hd
    rw [t d hd']
    refine h.fr d ?_
    cases line with
    | nil => simp at hd'
    | cons a r =>
      show d ∈ r
      cases j with
      | zero =>
        exact List.mem_of_mem_tail (by simpa using hd)
      | succ j =>
        have hd2 : d ∈ r.eraseIdx j := by simpa using hd
        exact List.mem_of_mem_eraseIdx hd2
/-- Nobody has been picked. -/
theorem drr_start {k : Nat} (hf : ∀ c ∈ line, tl[c]? = some ⟨true, true, 0⟩) (hq : 0 ≤ q) : Drr q tl line (List.replicate k 0) := by
  have t : ∀ c ∈ line, tcl tl c = ⟨true, true, 0⟩ := fun c hc => tcl_at (hf c hc)
  have g : ∀ c, (List.replicate k (0 : Int)).getD c 0 = 0 := fun c => by
    rw [List.getD_eq_getElem?_getD, List.getElem?_replicate]
    split <;> rfl
  have e : ∀ c ∈ line, hav q tl (List.replicate k 0) c = q := fun c hc => by
    unfold hav
    rw [t c hc, g]
    simp
  refine ⟨?_, fun c hc => ?_, fun c hc _ => ?_, fun c hc => ?_, fun c hc => ?_⟩
  · rw [List.pairwise_iff_getElem]
    intro i j hi hj _
    rw [e _ (List.getElem_mem hi), e _ (List.getElem_mem hj)]
    omega
  · rw [t c hc]
    simp
  · rw [t c hc]
    simp
  · rw [t c hc]
    simp
    omega
  · rw [t c (List.mem_of_mem_tail hc)]
end
end Go.Proofs.YtpanmfdbdgecaaaGreat.C
