/- Turns: one of several goes to sleep. · The police: one of a free class leaves. · The walk of Flows (stores). · choke.Match over flows of one's own. -/
import Derived.Test.YtpanmfdbdgecaaaGreatV17
import Derived.Deep.DeepMust
import Derived.Deep.QuietTactic
import Derived.BigQuiet
import Derived.Outline
namespace Go.Proofs.YtpanmfdbdgecaaaGreat.C
open Go.RowKit
set_option linter.unusedVariables false
theorem nodup_at {l : List Nat} (h : l.Nodup) {i j x : Nat} (hi : l[i]? = some x) (hj : l[j]? = some x) : i = j := by
  have h1 := lt_of_some hi
  have h2 := lt_of_some hj
  rw [List.getElem?_eq_getElem h1] at hi
  rw [List.getElem?_eq_getElem h2] at hj
  injection hi with hi
  injection hj with hj
  have hp := List.pairwise_iff_getElem.1 h
  rcases Nat.lt_trichotomy i j with h3 | h3 | h3
  · exact absurd (hi.trans hj.symm) (hp i j h1 h2 h3)
  · exact h3
  · exact absurd (hj.trans hi.symm) (hp j i h2 h1 h3)
theorem index_many (b n m k c : Nat) (line : List Nat) (C : Array Value) (w : World) (hC : w.heap[b]? = some (.cells C 3 (0, 0))) (hl : ∀ (j x : Nat), line[j]? = some x → C[j]? = some (.int .i64 (x : Nat))) (hk : line[k]? = some c) (hnd : line.Nodup) (hm : line.length = m) (hm9 : m ≤ 129) :
    Calls Tryz.prog 157 #[.slice (some ⟨b, 0, none⟩) m n, .int .i64 (c : Nat)] w fun e w' => e = .returned (.int .i64 (k : Nat)) ∧ w' = w := by
  have hkm : k < m := by rw [← hm]; exact lt_of_some hk
  have HC := Lib.hid hC
  have HL := Lib.hid hl
  have HK := Lib.hid hk
  have HND := Lib.hid hnd
  have HM := Lib.hid hm
  clear hC hl hk hnd hm
  go_enter Tryz.func157, Tryz.ntmps157
  go_wp2_with fail
  go_loopw [8] (fun t wr => ∃ j : Nat, j ≤ k ∧ t = .int .i64 (j : Nat) ∧ w = wr) (fun t _ => k + 1 - (intOf t).toNat)
  case atStart => exact ⟨0, by omega, rfl, rfl⟩
  case round =>
    obtain ⟨j, hj, rfl, rfl⟩ := hrel
    obtain ⟨x, hx⟩ : ∃ x, line[j]? = some x := ⟨_, List.getElem?_eq_getElem (by have := HM.out; omega)⟩
    have cj := cells_of_row HC.out j _ (HL.out j x hx)
    have hjm : (j : Int) < (m : Int) := by omega
    have hjw : IntKind.i64.wrap ((j : Int) + 1) = ((j + 1 : Nat) : Int) := by rw [IntWalk.i64_in _ (by omega)]; omega
    by_cases hjk : j = k
    · subst hjk
      obtain rfl : x = c := by
        have := HK.out
        rw [hx] at this
        injection this
      clear hx
      go_wp2
      go_ret
      exact ⟨rfl, rfl⟩
    · have hne : ¬ ((c : Int) = (x : Int)) := fun e => hjk (nodup_at HND.out hx (by rw [show x = c by omega]; exact HK.out))
      have hd : decide ((c : Int) = (x : Int)) = false := decide_eq_false hne
      have hbe : ((c : Int) == (x : Int)) = false := by simpa using hne
      clear hx
      go_wp2_with fail
      refine ⟨⟨j + 1, by omega, by go_num, by first | rfl | trivial⟩, ?_⟩
      simp only [intOf]
      omega
theorem erase_at (line : List Nat) (k j : Nat) : (line.eraseIdx k)[j]? = if j < k then line[j]? else line[j + 1]? := by
  rw [List.getElem?_eraseIdx]
set_option maxRecDepth 100000 in
set_option maxHeartbeats 1000000 in
theorem delete_many (b n m m1 k : Nat) (line : List Nat) (C : Array Value) (w : World) (hC : w.heap[b]? = some (.cells C 3 (0, 0))) (hs : C.size = n) (hl : ∀ (j x : Nat), line[j]? = some x → C[j]? = some (.int .i64 (x : Nat))) (hm : line.length = m) (hm1 : m = m1 + 1) (hk : k < m) (hmn : m ≤ n) (hn2 : n ≤ 129) :
    Calls Tryz.prog 158 #[.slice (some ⟨b, 0, none⟩) m n, .int .i64 (k : Nat), .int .i64 ((k + 1 : Nat) : Int)] w fun e w' => e = .returned (.slice (some ⟨b, 0, none⟩) m1 n) ∧ (∃ C' : Array Value, w'.heap[b]? = some (.cells C' 3 (0, 0)) ∧ C'.size = n ∧ ∀ (j x : Nat), (line.eraseIdx k)[j]? = some x → C'[j]? = some (.int .i64 (x : Nat))) ∧ Two b b w w' := by
  obtain ⟨i0, hi0, hz0, hz1, hz2⟩ := info_parts int_info
  have HI0 := Lib.hid hi0
  have HZ0 := Lib.hid hz0
  have HZ1 := Lib.hid hz1
  -- what comes behind the one that goes
  obtain ⟨tl, htl⟩ : ∃ tl : List Value, tl = (line.drop (k + 1)).map (fun x => Value.int .i64 (x : Nat)) := ⟨_, rfl⟩
  have htll : tl.length = m - (k + 1) := by rw [htl, List.length_map, List.length_drop, hm]
  have htla : ∀ j, tl[j]? = (line[k + 1 + j]?).map (fun x => Value.int .i64 (x : Nat)) := fun j => by rw [htl, List.getElem?_map, List.getElem?_drop]
  clear htl
  obtain ⟨A, hA⟩ : ∃ A : Addr, (if n = k + 1 then some (⟨b, 0, none⟩ : Addr) else some ⟨b, k + 1, none⟩) = some A := by
    by_cases h : n = k + 1
    · exact ⟨_, if_pos h⟩
    · exact ⟨_, if_neg h⟩
  have hnews : ∀ j u, tl[j]? = some u → w.drew.cell? (A.add j) = some u := fun j u hu => by
    rw [htla] at hu
    obtain ⟨x, hx, rfl⟩ := Option.map_eq_some_iff.1 hu
    have hlt := lt_of_some hx
    have hA2 : A = ⟨b, k + 1, none⟩ := by
      rw [if_neg (by omega)] at hA
      injection hA with hA
      exact hA.symm
    rw [hA2, OW.addr_off]
    exact cells_of_row (w := w.drew) hC (k + 1 + j) _ (hl _ _ hx)
  have hone : ∀ u ∈ tl, u.oneCell' = true := fun u hu => by
    obtain ⟨j, hj⟩ := List.getElem?_of_mem hu
    rw [htla] at hj
    obtain ⟨x, hx, rfl⟩ := Option.map_eq_some_iff.1 hj
    rfl
  have hspare : ∀ j, j < tl.length → (w.drew.cell? ⟨b, 0 + k * 1 + j, none⟩).isSome = true ∧ w.drew.frozen? ⟨b, 0 + k * 1 + j, none⟩ = false := fun j hj => by
    have h1 : (0 + k * 1 + j) < C.size := by omega
    exact ⟨by rw [show w.drew.cell? ⟨b, 0 + k * 1 + j, none⟩ = some C[0 + k * 1 + j] from cells_of_row (w := w.drew) hC _ _ (Array.getElem?_eq_getElem h1)]; rfl, frozen_of_row _ _ _ _ _ (show w.drew.heap[b]? = _ from hC)⟩
  have hcs : k + tl.length ≤ C.size := by omega
  have hX := block_setCells 3 tl k w.drew b C hC hcs
  have hT : Two b b w (w.drew.setCells b k tl) := Two.setCells (g := b) (h := b) (b := b) (.inl rfl) tl k ((Two.refl b b w).drewN 1)
  obtain ⟨C1, hC1⟩ : ∃ C1, (splice C.toList k tl).toArray = C1 := ⟨_, rfl⟩
  have hC1s : C1.size = n := by rw [← hC1, List.size_toArray, splice_length (by simpa using hcs), Array.length_toList, hs]
  have hC1a : ∀ j : Nat, C1[j]? = if j < k then C[j]? else if j < k + tl.length then tl[j - k]? else C[j]? := fun j => by
    rw [← hC1, List.getElem?_toArray, splice_at (by simpa using hcs)]
    simp only [Array.getElem?_toList]
  rw [hC1] at hX
  have hsl : ∀ (j x : Nat), (line.eraseIdx k)[j]? = some x → C1[j]? = some (.int .i64 (x : Nat)) := fun j x hx => by
    rw [erase_at] at hx
    rw [hC1a]
    by_cases h : j < k
    · rw [if_pos h] at hx ⊢
      exact hl _ _ hx
    · rw [if_neg h] at hx ⊢
      have := lt_of_some hx
      rw [if_pos (by omega), htla, show k + 1 + (j - k) = j + 1 by omega, hx]
      rfl
  have hcl : ∀ (W : World) (ty : TypeId), W.heap[b]? = some (.cells C1 3 (0, 0)) → (Builtin.clear_ #[117] ty #[.slice (some ⟨b, m1, none⟩) 1 (n - m1)]).run Tryz.prog W = .ok (.tuple #[]) (W.setCells b m1 (List.replicate 1 (.int .i64 0))) := fun W ty hW =>
    Lib.run_clear_slice W 117 3 ty (.int .i64 0) Tryz.underlying117 (fun w' => by
      have hu := Tryz.underlying3
      simp [zeroValue, typeInfo, hi0, hz0, go_sem]) rfl rfl b m1 1 (n - m1) (by omega) (fun j hj => by
      obtain rfl : j = 0 := by omega
      rw [show W.cell? ⟨b, m1 + 0, none⟩ = some C1[m1] from cells_of_row hW _ _ (Array.getElem?_eq_getElem (by omega))]
      rfl) (fun j hj => frozen_of_row _ _ _ _ _ hW)
  have HCL := Lib.hid hcl
  have HX := Lib.hid hX
  have HT := Lib.hid hT
  have HS1 := Lib.hid hC1s
  have HSL := Lib.hid hsl
  have HML := Lib.hid (show ∀ (j x : Nat), (line.eraseIdx k)[j]? = some x → j < m1 from fun j x hx => by
    have := lt_of_some hx
    rw [List.length_eraseIdx_of_lt (by omega)] at this
    omega)
  have HTL := Lib.hid htll
  have HM1 := Lib.hid hm1
  have HLS := Lib.hid (show k + (m - (k + 1)) = m1 by omega)
  have HD := Lib.hid (show m - m1 = 1 by omega)
  clear hX hT hC1s hsl hcl hC1a hC1 htla hz0 hz2 hC hs hl hm1 hm
  have hke : ¬ ((k : Int) = ((k + 1 : Nat) : Int)) := by omega
  have hkd : decide ((k : Int) = ((k + 1 : Nat) : Int)) = false := decide_eq_false hke
  have hkb : ((k : Int) == ((k + 1 : Nat) : Int)) = false := by simpa using hke
  have hk1 : k + 1 ≤ m := hk
  have hk2 : k ≤ m := by omega
  have hkn : k ≤ n := by omega
  have hk1n : k + 1 ≤ n := by omega
  have hI1 : (k : Int) ≤ ((k + 1 : Nat) : Int) := by omega
  have hI2 : ((k + 1 : Nat) : Int) ≤ (m : Int) := by omega
  have hI5 : (0 : Int) ≤ (k : Int) + 1 := by omega
  have hI6 : (k : Int) + 1 ≤ (m : Int) := by omega
  have hI3 : (m : Int) ≤ (n : Int) := by omega
  have hI4 : (k : Int) ≤ (n : Int) := by omega
  go_enter Tryz.func158, Tryz.ntmps158
  go_wp2_with fail
  go_region_law (refine step_append_room rfl (.tmp 22) (.tmp 25) 117 rfl 3 i0 1 Tryz.underlying117 hi0 hz1 b 0 k n (by simp [Act.eval, Act.put]) A (m - (k + 1)) (n - (k + 1)) tl (by simp [Act.eval, Act.put]) (by rw [htll]; omega) hnews hone (by omega) hspare ?_)
  rw [HLS.out]
  clear hnews hspare hone hcs htll hA HLS
  generalize w.drew.setCells b k tl = W at *
  have hd1 := HD.out
  have hmm := HM1.out
  have hn1 : ¬ (n = m1) := by omega
  have hn2' : n ≠ m1 := hn1
  have hi1 : (m1 : Int) ≤ (m : Int) := by omega
  have hi2 : (0 : Int) ≤ (m1 : Int) := by omega
  have hi3 : m1 ≤ m := by omega
  clear hmm
  have hst := heap_setCell_same W _ m1 _ _ (.int .i64 0) HX.out
  have hcl0 := HCL.out W
  have HF : Hid (W.setCells b m1 (List.replicate 1 (.int .i64 0)) = W.setCell ⟨b, m1, none⟩ (.int .i64 0)) := Lib.hid rfl
  have HTF : Hid (Two b b w (W.setCell ⟨b, m1, none⟩ (.int .i64 0))) := Lib.hid (Two.setCell (x := ⟨b, m1, none⟩) HT.out (.inl rfl) _)
  have HST := Lib.hid hst
  clear hst hcl0 HT
  go_wp2_with ((with_reducible refine arm_clear 31 117 _ _ _ (HCL.out _ _ HX.out) ?_ ?_); rfl)
  go_ret
  refine ⟨rfl, ⟨_, HST.out, by rw [Array.size_setIfInBounds]; exact HS1.out, fun j x hx => ?_⟩, HTF.out⟩
  rw [Array.getElem?_setIfInBounds_ne (by have := HML.out j x hx; omega)]
  exact HSL.out j x hx
section
variable {w : World} {pb b1 b2 : Nat} {q : Int} {l : List Tcl} {line : List Nat}
theorem TnAt.erase (h : TnAt w pb b1 b2 q l line) {k m1 : Nat} (hm : line.length = m1 + 1) (hk : k < line.length) {C' : Array Value} {w' : World} (hC : w'.heap[b2]? = some (.cells C' 3 (0, 0))) (hs : C'.size = l.length) (hl : ∀ (j x : Nat), (line.eraseIdx k)[j]? = some x → C'[j]? = some (.int .i64 (x : Nat))) (p : Two b2 b2 w w') : TnAt (w'.setCell ⟨pb, 2, none⟩ (.slice (some ⟨b2, 0, none⟩) m1 l.length)) pb b1 b2 q l (line.eraseIdx k) ∧ Amg [pb, b1, b2] w (w'.setCell ⟨pb, 2, none⟩ (.slice (some ⟨b2, 0, none⟩) m1 l.length)) := by
  obtain ⟨n1, n2, n3⟩ := h.ne
  have kp := (p.block pb (Array.getElem?_eq_some_iff.1 h.ptr).1 n2 n2).trans h.ptr
  have kr := (p.block b1 (Array.getElem?_eq_some_iff.1 h.row).1 n3 n3).trans h.row
  have hle : (line.eraseIdx k).length = m1 := by rw [List.length_eraseIdx_of_lt hk]; omega
  refine ⟨⟨?_, (heap_setCell_other _ _ _ _ (fun e => n1 e.symm)).trans kr, ⟨C', (heap_setCell_other _ _ _ _ (fun e => n2 e.symm)).trans hC, hs, hl⟩, by rw [hle]; have := h.len; omega⟩, ?_⟩
  · have := heap_setCell_same _ _ 2 _ _ (.slice (some ⟨b2, 0, none⟩) m1 l.length) kp
    rw [hle]
    simpa using this
  · exact (Amg.of_two p (by simp) (by simp)).trans (Amg.of_two (Two.setCell (g := pb) (h := pb) (x := ⟨pb, 2, none⟩) (Two.refl _ _ w') (.inl rfl) _) (by simp) (by simp))
set_option maxRecDepth 100000 in
theorem sleep_many (c k : Nat) (x : Tcl) (h : TnAt w pb b1 b2 q l line) (hl : l.length ≤ 129) (hx : l[c]? = some x) (ha : x.awake = true) (hk : line[k]? = some c) (hnd : line.Nodup) :
    Calls Tryz.prog 103 #[.pointer (some ⟨pb, 0, none⟩), .int .i64 (c : Nat)] w fun e w' => e = .returned (.bool true) ∧ TnAt w' pb b1 b2 q (l.set c ⟨false, false, 0⟩) (line.eraseIdx k) ∧ Amg [pb, b1, b2] w w' := by
  have hc := lt_of_some hx
  have hkl := lt_of_some hk
  have CH := Lib.hid (turns_has (c : Nat) h hl)
  rw [decide_eq_true (show 0 ≤ (c : Int) ∧ (c : Int) < l.length by omega)] at CH
  obtain ⟨c0, c1, c2, f2⟩ := h.c0
  obtain ⟨d0, d1, d2, ff⟩ := h.cls hx
  rw [ha] at d0
  have ff0 := ff (c * 3)
  have ff1 := ff (c * 3 + 1)
  have ff2 := ff (c * 3 + 2)
  clear ff
  have hlen := h.len
  have HH := Lib.hid h
  have HX := Lib.hid hx
  have HL := Lib.hid hl
  have HK := Lib.hid hk
  have HND := Lib.hid hnd
  clear h hx hk hnd
  obtain ⟨n, hn⟩ : ∃ n, n = l.length := ⟨_, rfl⟩
  obtain ⟨m, hm⟩ : ∃ m, m = line.length := ⟨_, rfl⟩
  obtain ⟨m1, hm1⟩ : ∃ m1, m = m1 + 1 := ⟨m - 1, by omega⟩
  rw [← hn] at c1 c2 hc hlen
  rw [← hm] at c2 hkl hlen
  have HN := Lib.hid hn
  have HM := Lib.hid hm
  have HM1 := Lib.hid hm1
  have HLE := Lib.hid hlen
  clear hn hl hm hm1 hlen
  have hcn : (c : Int) < (n : Int) := by omega
  go_enter Tryz.func103, Tryz.ntmps103
  go_wp2_with fail
  refine CH.out.mono ?_
  rintro e w1 ⟨rfl, rfl⟩
  go_upto_region 4 with (fail)
  have h3 := HH.out.setCls HX.out ⟨false, false, 0⟩
  have a3 : Amg [pb, b1, b2] w1 (w1.setCells b1 (c * 3) (tclC ⟨false, false, 0⟩)) := Amg.of_two (Two.setCells (g := b1) (h := b1) (.inl rfl) _ _ (Two.refl b1 b1 w1)) (by simp) (by simp)
  have e3 : ((w1.setCell ⟨b1, c * 3, none⟩ (.bool false)).setCell ⟨b1, c * 3 + 1, none⟩ (.bool false)).setCell ⟨b1, c * 3 + 2, none⟩ (.int .i64 0) = w1.setCells b1 (c * 3) (tclC ⟨false, false, 0⟩) := rfl
  rw [e3]
  have HA := Lib.hid a3
  clear a3 e3 c0 c1 c2 f2 d0 d1 d2 ff0 ff1 ff2 CH
  generalize w1.setCells b1 (c * 3) (tclC ⟨false, false, 0⟩) = w3 at *
  have hl2 : (l.set c ⟨false, false, 0⟩).length = n := by rw [List.length_set, HN.out]
  generalize hq2 : l.set c ⟨false, false, 0⟩ = l2 at h3 hl2
  have HL2 := Lib.hid hq2
  clear hq2
  have hn129 : n ≤ 129 := HN.out ▸ HL.out
  clear HH HX HN HL
  subst hl2
  obtain ⟨_, _, c2, f2⟩ := h3.c0
  obtain ⟨C, hC, hCs, hCl⟩ := h3.lin
  rw [← HM.out] at c2
  have CI := Lib.hid (index_many b2 l2.length m k c line C w3 hC hCl HK.out HND.out HM.out.symm (by have := HLE.out; omega))
  have CD := Lib.hid (delete_many b2 l2.length m m1 k line C w3 hC hCs hCl HM.out.symm HM1.out hkl HLE.out hn129)
  have H3 := Lib.hid h3
  have hkw : IntKind.i64.wrap ((k : Int) + 1) = ((k + 1 : Nat) : Int) := by rw [IntWalk.i64_in _ (by have := HLE.out; omega)]; omega
  have HKL := Lib.hid hkl
  clear h3 hC hCs hCl hc hcn hn129 hkl
  go_wp2_with fail
  refine CI.out.mono ?_
  rintro e w4 ⟨rfl, hw4⟩
  replace hw4 := hw4.symm
  subst hw4
  go_wp2_with fail
  refine CD.out.mono ?_
  rintro e w5 ⟨rfl, ⟨C', hC', hs', hl'⟩, hT⟩
  obtain ⟨r1, r2⟩ := H3.out.erase (k := k) (HM.out.symm.trans HM1.out) (by rw [← HM.out]; exact HKL.out) hC' hs' hl' hT
  obtain ⟨n1, n2, n3⟩ := H3.out.ne
  have k5 := (hT.block pb (Array.getElem?_eq_some_iff.1 H3.out.ptr).1 n2 n2).trans H3.out.ptr
  have c5 := cells_of_row k5 2 _ rfl
  have f5 := frozen_of_row _ _ 2 _ _ k5
  rw [← HM.out] at c5
  have R1 := Lib.hid r1
  have R2 := Lib.hid r2
  clear r1 r2 hC' hs' hl' hT k5 c2 f2 n1 n2 n3 CI CD
  go_wp2
  go_ret
  rw [HL2.out]
  exact ⟨rfl, R1.out, HA.out.trans R2.out⟩
end
end Go.Proofs.YtpanmfdbdgecaaaGreat.C

namespace Go.Proofs.YtpanmfdbdgecaaaGreat.C
open Go.RowKit
set_option linter.unusedVariables false
/-- What the police has when one of a class has left. -/
def leftF (F : PCf) (S : PSt) (n : Int) (cl : Nat) (l : List (Array Value)) (k j : Nat) (bn : Bin) : PSt :=
  { S with L := S.L.set cl l, sh := QU.subS (F.c 9) S.sh S.ql (cl : Nat) n, ql := QU.subL S.ql (cl : Nat) n, b0 := S.b0.set k ⟨subC bn.bytes n, bn.changed, bn.p⟩, tl := if l = [] then S.tl.set cl ⟨false, false, 0⟩ else S.tl, line := if l = [] then S.line.eraseIdx j else S.line }
section
variable {w : World} {A : PAd} {F : PCf} {S : PSt}
set_option maxRecDepth 100000 in
set_option maxHeartbeats 1000000 in
theorem count_off (K FK : Nat → Nat) (x fl : Array Value) (cl k : Nat) (n : Int) (y : Bin) (h : Pol w A F S) (hv : Lv1 F K) (hx : PkL x n) (hxf : PkF x fl) (hf : KeyOf fl FK) (hcl : (cl : Int) < F.c 0) (hk : fallV K FK 1 (F.c 3).toNat = k) (hy : S.b0[k]? = some y) (hn : 1 ≤ n ∧ n ≤ 9216) :
    Calls Tryz.prog 133 #[.pointer (some ⟨A.pb, 0, none⟩), .int .i64 (cl : Nat), .agg x, .bool false] w fun e w' => e = .returned (.tuple #[]) ∧ Pol w' A F { S with b0 := S.b0.set k ⟨subC y.bytes n, y.changed, y.p⟩ } ∧ Tur A.tg [6, 7] w w' := by
  have hbn := h.fok.right.bins
  have hbk := h.fok.right.buckets
  have hlv := hv.lv
  have hkl : k < (F.c 3).toNat := by
    rw [← hk]
    exact fallV_lt _ _ _ _ (by omega)
  have CP := Lib.hid (fun w' (q : Pol w' A F S) => police_penalty q)
  have CB := Lib.hid (fun w' (q : Pol w' A F S) => police_bins K FK fl q hv hf)
  rw [hk] at CB
  have CU : Hid (∀ (w' : World) (g c : Nat), Pol w' A F S → w'.cell? ⟨g, 0, none⟩ = some (.int .i64 (k : Nat)) → Calls Tryz.prog 98 #[.pointer (some ⟨A.u0, 0, none⟩), .slice (some ⟨g, 0, none⟩) 1 c, .int .i64 n] w' fun e w'' => e = .returned (.bool true) ∧ Pol w'' A F { S with b0 := S.b0.set k ⟨subC y.bytes n, y.changed, y.p⟩ } ∧ Tur A.tg [6] w' w'') := Lib.hid fun w' g c q hc => by
    have hb0 := q.b0
    rw [hlv] at hb0
    refine (blue_take A.u0 A.v0 g c k (F.c 3).toNat S.b0 y (F.c 13) (F.c 14) (F.c 4) (F.c 5) n w' hb0 hc hkl (by omega) hy (by omega)).mono ?_
    rintro e w'' ⟨rfl, hB, hT⟩
    have hT' : Tur A.tg [6] w' w'' := Tur.of_two hT (by simp [q.ok.b0.2]) (by simp [q.ok.b0.2])
    refine ⟨rfl, (q.rest hT').setB0 ?_, hT'⟩
    rw [hlv]
    exact hB
  have HH := Lib.hid h
  have HXP := Lib.hid hx
  have HXF := Lib.hid hxf
  have HFS := Lib.hid hf.size
  have hne : ((cl : Int) == 2 * F.c 0) = false := beq_false_of_ne (by omega)
  have hq0 : (cl : Int).tdiv (F.c 0) = 0 := Int.tdiv_eq_zero_of_lt (by omega) hcl
  have hnz : ¬ (F.c 0 = 0) := by omega
  have hb0 := h.lo 0 (by omega)
  clear h hv hx hxf hf hy hk hlv
  generalize 2 * F.c 0 = pn at *
  have hne2 : ¬ ((cl : Int) = pn) := by simpa using hne
  go_enter Tryz.func133, Tryz.ntmps133
  go_upto_region 1 with ((with_reducible refine arm_box 6 2 68 x ?_ ?_); rfl; intro w1 HB HX HS)
  have HP1 := Lib.hid (HH.out.below HB.out)
  go_wp2_with fail
  refine (CP.out _ HP1.out).mono ?_
  rintro e w2 ⟨rfl, hw2⟩
  subst hw2
  have k0 := HP1.out.lo 0 (by omega)
  have HLD : Hid (∀ w', Below w2.heap.size w2 w' → w'.cell? ⟨A.pb, 24, none⟩ = some (.pointer (some ⟨A.u0, 0, none⟩)) ∧ (Instr.loadAt 58 (.pointer (some ⟨w.heap.size, 1, none⟩))).run Tryz.prog w' = .ok (.agg fl) w') := Lib.hid fun w' q =>
    ⟨(HP1.out.below q).c24, HXF.out.load HFS.out (keep_block q HX.out)⟩
  go_wp2_with fail
  refine wp_region_held_drew (S := Below w2.heap.size w2) (by kernel_rfl) (Below.refl _ _).drew (fun hHeld => ?_)
  refine wpAnyH_take (i := 0) (oi := ⟨some 22, _, _, _, _, _⟩) (v := ?_) rfl (by kernel_rfl) (by kernel_rfl) (by kernel_rfl) (fun _ _ _ h => h) (Or.inl ⟨by rfl, ?_⟩) hHeld ?_
  rotate_left
  · intro w hSw
    go_simp
    try with_reducible rfl
  try simp only [Act.put, List.setIfInBounds_toArray, List.set_cons_zero, List.set_cons_succ]
  refine wpAnyH_take (i := 1) (oi := ⟨some 23, _, _, _, _, _⟩) (v := ?_) rfl (by kernel_rfl) (by kernel_rfl) (by kernel_rfl) (fun _ _ _ h => h) (Or.inl ⟨by rfl, ?_⟩) hHeld ?_
  rotate_left
  · intro w hSw
    go_simp
    try with_reducible rfl
  try simp only [Act.put, List.setIfInBounds_toArray, List.set_cons_zero, List.set_cons_succ]
  refine wpAnyH_take (i := 2) (oi := ⟨some 24, _, _, _, _, _⟩) (v := ?_) rfl (by kernel_rfl) (by kernel_rfl) (by kernel_rfl) (fun _ _ _ h => h) (Or.inl ⟨by rfl, ?_⟩) hHeld ?_
  rotate_left
  · intro w hSw
    go_simp
    try with_reducible rfl
  try simp only [Act.put, List.setIfInBounds_toArray, List.set_cons_zero, List.set_cons_succ]
  refine wpAnyH_take (i := 3) (oi := ⟨some 25, _, _, _, _, _⟩) (v := ?_) rfl (by kernel_rfl) (by kernel_rfl) (by kernel_rfl) (fun _ _ _ h => h) (Or.inl ⟨by rfl, ?_⟩) hHeld ?_
  rotate_left
  · intro w hSw
    go_simp
    try with_reducible rfl
  try simp only [Act.put, List.setIfInBounds_toArray, List.set_cons_zero, List.set_cons_succ]
  refine wpAnyH_take (i := 4) (oi := ⟨some 26, _, _, _, _, _⟩) (v := ?_) rfl (by kernel_rfl) (by kernel_rfl) (by kernel_rfl) (fun _ _ _ h => h) (Or.inl ⟨by rfl, ?_⟩) hHeld ?_
  rotate_left
  · intro w hSw
    go_simp
    try with_reducible rfl
  try simp only [Act.put, List.setIfInBounds_toArray, List.set_cons_zero, List.set_cons_succ]
  refine wpAnyH_take (i := 5) (oi := ⟨some 27, _, _, _, _, _⟩) (v := ?_) rfl (by kernel_rfl) (by kernel_rfl) (by kernel_rfl) (fun _ _ _ h => h) (Or.inl ⟨by rfl, ?_⟩) hHeld ?_
  rotate_left
  · intro w hSw
    obtain ⟨k4, _⟩ := HLD.out w hSw
    go_simp
    try with_reducible rfl
  try simp only [Act.put, List.setIfInBounds_toArray, List.set_cons_zero, List.set_cons_succ]
  refine wpAnyH_take (i := 6) (oi := ⟨some 28, _, _, _, _, _⟩) (v := ?_) rfl (by kernel_rfl) (by kernel_rfl) (by kernel_rfl) (fun _ _ _ h => h) (Or.inl ⟨by rfl, ?_⟩) hHeld ?_
  rotate_left
  · intro w hSw
    go_simp
    try with_reducible rfl
  try simp only [Act.put, List.setIfInBounds_toArray, List.set_cons_zero, List.set_cons_succ]
  refine wpAnyH_take (i := 7) (oi := ⟨some 29, _, _, _, _, _⟩) (v := ?_) rfl (by kernel_rfl) (by kernel_rfl) (by kernel_rfl) (fun _ _ _ h => h) (Or.inl ⟨by rfl, ?_⟩) hHeld ?_
  rotate_left
  · intro w hSw
    go_simp
    try with_reducible rfl
  try simp only [Act.put, List.setIfInBounds_toArray, List.set_cons_zero, List.set_cons_succ]
  refine wpAnyH_take (i := 8) (oi := ⟨some 30, _, _, _, _, _⟩) (v := ?_) rfl (by kernel_rfl) (by kernel_rfl) (by kernel_rfl) (fun _ _ _ h => h) (Or.inl ⟨by rfl, ?_⟩) hHeld ?_
  rotate_left
  · intro w hSw
    go_simp
    try with_reducible rfl
  try simp only [Act.put, List.setIfInBounds_toArray, List.set_cons_zero, List.set_cons_succ]
  refine wpAnyH_take (i := 9) (oi := ⟨some 31, _, _, _, _, _⟩) (v := .agg fl) rfl (by kernel_rfl) (by kernel_rfl) (by kernel_rfl) (fun _ _ _ h => h) (Or.inl ⟨by rfl, fun w hSw => exec_load rfl (HLD.out w hSw).2⟩) hHeld ?_
  try simp only [Act.put, List.setIfInBounds_toArray, List.set_cons_zero, List.set_cons_succ]
  refine wpAnyH_ready (rs := [10]) (by kernel_rfl) (by simp) ?_
  refine AllReadyH.cons rfl (fun K hK => ?_) AllReadyH.nil
  go_simp
  go_wp2_with (go_at_call 80; go_must (refine (CB.out _ (HP1.out.below hHeld)).mono ?_; rintro e w10 ⟨⟨v, rfl, hR⟩, hB⟩))
  refine hK.out _ _ (hHeld.trans (hB.mono hHeld.size)) (fun hHeld => ?_)
  clear hK K
  refine wpAnyH_take (i := 11) (oi := ⟨some 9, _, _, _, _, _⟩) (v := ?_) rfl (by kernel_rfl) (by kernel_rfl) (by kernel_rfl) (fun _ _ _ h => h) (Or.inl ⟨by rfl, ?_⟩) hHeld ?_
  rotate_left
  · intro w hSw
    go_simp
    try with_reducible rfl
  try simp only [Act.put, List.setIfInBounds_toArray, List.set_cons_zero, List.set_cons_succ]
  refine wpAnyH_take (i := 12) (oi := ⟨some 10, _, _, _, _, _⟩) (v := ?_) rfl (by kernel_rfl) (by kernel_rfl) (by kernel_rfl) (fun _ _ _ h => h) (Or.inl ⟨by rfl, ?_⟩) hHeld ?_
  rotate_left
  · intro w hSw
    go_simp
    try with_reducible rfl
  try simp only [Act.put, List.setIfInBounds_toArray, List.set_cons_zero, List.set_cons_succ]
  refine wpAnyH_done (by kernel_rfl) ?_ _
  obtain ⟨g, c, rfl, _, hgc⟩ := hR
  have HP2 := Lib.hid (HP1.out.below hHeld)
  have HX2 := Lib.hid (keep_block hHeld HX.out)
  have HB2 := Lib.hid (HB.out.trans (hHeld.mono HB.out.size))
  have CU2 := Lib.hid (CU.out w10 g c HP2.out hgc)
  have k45 := cells_of_row HX2.out 45 _ HXP.out.len
  clear hB hHeld hgc k0 hb0
  go_wp2_with fail
  refine CU2.out.mono ?_
  rintro e w11 ⟨rfl, hP, hT⟩
  have HP3 := Lib.hid hP
  have HT3 : Hid (Tur A.tg [6, 7] w w11) := Lib.hid ((Tur.of_below HB2.out).trans (hT.sub (by simp)))
  clear hP hT CU2
  go_wp2
  go_end0
  exact ⟨rfl, HP3.out, HT3.out⟩
set_option maxRecDepth 100000 in
set_option maxHeartbeats 2000000 in
theorem leave_free (K FK : Nat → Nat) (x fl : Array Value) (cl kx k j : Nat) (n : Int) (l0 l : List (Array Value)) (y : Tcl) (bn : Bin) (h : Pol w A F S) (hv : Lv1 F K) (hx : PkL x n) (hxf : PkF x fl) (hf : KeyOf fl FK) (hcl : (cl : Int) < F.c 0) (hk : fallV K FK 1 (F.c 3).toNat = k) (hb : S.b0[k]? = some bn) (hn : 1 ≤ n ∧ n ≤ 9216) (hl : S.L[cl]? = some l0) (hkx : l0[kx]? = some x) (hle : l0.eraseIdx kx = l) (hok : QU.QOk (F.c 9) (F.c 10) S.sh S.ql) (htl : S.tl.length ≤ 129) (hy : S.tl[cl]? = some y) (ya : y.awake = true) (hj : S.line[j]? = some cl) (hnd : S.line.Nodup) :
    Calls Tryz.prog 79 #[.pointer (some ⟨A.pb, 0, none⟩), .int .i64 (cl : Nat), .int .i64 (kx : Nat)] w fun e w' => e = .returned (.tuple #[.agg x, .bool true]) ∧ Pol w' A F (leftF F S n cl l k j bn) ∧ Tur A.tg [3, 4, 5, 6, 7] w w' := by
  have hcb := h.fok.right.buckets
  have hlt := lt_of_some hl
  have HO := Lib.hid h.ok
  have HL := Lib.hid hx.len
  have HPK := Lib.hid hx.pk
  have HLI := Lib.hid h.lim
  have CS : Hid (∀ w', Pol w' A F S → Calls Tryz.prog 136 #[.pointer (some ⟨A.st.sb, 0, none⟩), .int .i64 (cl : Nat), .int .i64 (kx : Nat)] w' fun e w'' => e = .returned (.tuple #[.agg x, .bool true]) ∧ Pol w'' A F { S with L := S.L.set cl l } ∧ Tur A.tg [3] w' w'') := Lib.hid fun w' q => by
    refine (st_cut_yes cl kx n x l0 q.sto hx.len hl hkx).mono ?_
    rintro e w'' ⟨rfl, hS, hA⟩
    rw [hle] at hS
    have hT : Tur A.tg [3] w' w'' := Tur.of_amg hA (fun k hk => by
      have : k ∈ A.st.sb :: A.st.pb :: A.st.bs := List.mem_cons_of_mem _ (List.mem_cons_of_mem _ hk)
      rw [q.ok.st k this]
      simp)
    exact ⟨rfl, (q.rest hT).setSto hS, hT⟩
  have CU : Hid (∀ w', Pol w' A F { S with L := S.L.set cl l } → Calls Tryz.prog 137 #[.pointer (some ⟨A.qb, 0, none⟩), .int .i64 (cl : Nat), .int .i64 n] w' fun e w'' => (∃ b, e = .returned (.bool b)) ∧ Pol w'' A F { S with L := S.L.set cl l, sh := QU.subS (F.c 9) S.sh S.ql (cl : Nat) n, ql := QU.subL S.ql (cl : Nat) n } ∧ Tur A.tg [4] w' w'') := Lib.hid fun w' q => by
    refine (QU.sub_any A.qb A.qr (F.c 9) (F.c 10) S.sh (cl : Nat) n S.ql w' q.q hok (by omega) (by omega)).mono ?_
    rintro e w'' ⟨rfl, hS, hA⟩
    have hT : Tur A.tg [4] w' w'' := Tur.of_two hA (by simp [q.ok.q.1]) (by simp [q.ok.q.2])
    exact ⟨⟨_, rfl⟩, (q.rest hT).setQ hS, hT⟩
  have CN : Hid (∀ w', Pol w' A F { S with L := S.L.set cl l, sh := QU.subS (F.c 9) S.sh S.ql (cl : Nat) n, ql := QU.subL S.ql (cl : Nat) n } → Calls Tryz.prog 133 #[.pointer (some ⟨A.pb, 0, none⟩), .int .i64 (cl : Nat), .agg x, .bool false] w' fun e w'' => e = .returned (.tuple #[]) ∧ Pol w'' A F { S with L := S.L.set cl l, sh := QU.subS (F.c 9) S.sh S.ql (cl : Nat) n, ql := QU.subL S.ql (cl : Nat) n, b0 := S.b0.set k ⟨subC bn.bytes n, bn.changed, bn.p⟩ } ∧ Tur A.tg [6, 7] w' w'') := Lib.hid fun w' q => count_off K FK x fl cl k n bn q hv hx hxf hf hcl hk hb hn
  have CE : Hid (∀ w', Pol w' A F { S with L := S.L.set cl l, sh := QU.subS (F.c 9) S.sh S.ql (cl : Nat) n, ql := QU.subL S.ql (cl : Nat) n, b0 := S.b0.set k ⟨subC bn.bytes n, bn.changed, bn.p⟩ } → Calls Tryz.prog 43 #[.pointer (some ⟨A.st.sb, 0, none⟩), .int .i64 (cl : Nat)] w' fun e w'' => e = .returned (.int .i64 (l.length : Nat)) ∧ w'' = w') := Lib.hid fun w' q => st_len cl l q.sto (List.getElem?_set_self hlt)
  have CZ : Hid (l = [] → ∀ w', Pol w' A F { S with L := S.L.set cl l, sh := QU.subS (F.c 9) S.sh S.ql (cl : Nat) n, ql := QU.subL S.ql (cl : Nat) n, b0 := S.b0.set k ⟨subC bn.bytes n, bn.changed, bn.p⟩ } → Calls Tryz.prog 103 #[.pointer (some ⟨A.tb, 0, none⟩), .int .i64 (cl : Nat)] w' fun e w'' => e = .returned (.bool true) ∧ Pol w'' A F (leftF F S n cl l k j bn) ∧ Tur A.tg [5] w' w'') := Lib.hid fun hl0 w' q => by
    have hq := q.tn
    refine (sleep_many cl j y hq htl hy ya hj hnd).mono ?_
    rintro e w'' ⟨rfl, hS, hA⟩
    have hT : Tur A.tg [5] w' w'' := Tur.of_amg hA (fun k hk => by
      obtain ⟨t1, t2, t3⟩ := q.ok.t
      simp only [List.mem_cons, List.not_mem_nil, or_false] at hk
      rcases hk with rfl | rfl | rfl <;> simp [t1, t2, t3])
    have := (q.rest hT).setT hS
    refine ⟨rfl, ?_, hT⟩
    unfold leftF
    rw [if_pos hl0, if_pos hl0]
    exact this
  have HEQ : Hid (l ≠ [] → leftF F S n cl l k j bn = { S with L := S.L.set cl l, sh := QU.subS (F.c 9) S.sh S.ql (cl : Nat) n, ql := QU.subL S.ql (cl : Nat) n, b0 := S.b0.set k ⟨subC bn.bytes n, bn.changed, bn.p⟩ }) := Lib.hid fun h0 => by
    unfold leftF
    rw [if_neg h0, if_neg h0]
  have HP0 := Lib.hid h
  clear h hok hx hl hy htl hn hlt hv hxf hf hk hb hkx hle hj hnd hcb hcl
  generalize leftF F S n cl l k j bn = S4 at *
  generalize { S with L := S.L.set cl l, sh := QU.subS (F.c 9) S.sh S.ql (cl : Nat) n, ql := QU.subL S.ql (cl : Nat) n, b0 := S.b0.set k ⟨subC bn.bytes n, bn.changed, bn.p⟩ } = S3b at *
  generalize { S with L := S.L.set cl l, sh := QU.subS (F.c 9) S.sh S.ql (cl : Nat) n, ql := QU.subL S.ql (cl : Nat) n } = S3 at *
  generalize { S with L := S.L.set cl l } = S2 at *
  go_enter Tryz.func79, Tryz.ntmps79
  go_upto_region 1 with ((with_reducible refine arm_alloc 6 68 PZ 46 pz_zero ?_); intro w1 HB HX HS)
  have HP1 := Lib.hid (HP0.out.below HB.out)
  have hlim : A.lim ≤ w.heap.size := HLI.out
  have HNI : Hid (∀ {a b : World} {ks : List Nat}, Tur A.tg ks a b → 0 ∉ ks → ∀ {k : Nat}, w.heap.size ≤ k → ∀ {o}, a.heap[k]? = some o → b.heap[k]? = some o) := Lib.hid fun q h0 k hk o ho => q.keep ho (by rw [HO.out.hi _ (Nat.le_trans hlim hk)]; exact h0)
  have k1 := HP1.out.c21
  clear hlim
  go_wp2_with fail
  refine (CS.out _ HP1.out).mono ?_
  rintro e w2 ⟨rfl, hP2, hT2⟩
  have HP2 := Lib.hid hP2
  have HX2 := Lib.hid (HNI.out hT2 (by decide) (Nat.le_refl _) HX.out)
  have T2 : Hid (Tur A.tg [3, 4, 5, 6, 7] w w2) := Lib.hid ((Tur.of_below HB.out).trans (hT2.sub (by simp)))
  have HS2 := Lib.hid (Nat.le_trans HB.out.size hT2.size)
  clear hP2 hT2 k1 CS HP1 HP0 HX HB HS
  go_upto_region 4 with (first
    | ((with_reducible refine arm_alloc 8 68 PZ 46 pz_zero ?_); intro w3 HB HX HS; have hst := pkt_store HX.out HPK.out)
    | ((with_reducible refine arm_store 8 18 68 (.pointer (some ⟨w2.heap.size, 0, none⟩)) (.agg x) _ hst ?_ ?_ ?_); rfl; rfl))
  have hX4 := box_whole HX.out (cs := x) HPK.out.size
  have hB4 := below_setCells (b := w2.heap.size) (Nat.le_refl _) x.toList 0 HB.out
  have hvl : w2.heap.size < (w3.setCells w2.heap.size 0 x.toList).heap.size := (Array.getElem?_eq_some_iff.1 hX4).1
  clear hst HX HB HS
  generalize w3.setCells w2.heap.size 0 x.toList = w4 at *
  have HP4 := Lib.hid (HP2.out.below hB4)
  have HR4 := Lib.hid (keep_block hB4 HX2.out)
  have T4 : Hid (Tur A.tg [3, 4, 5, 6, 7] w w4) := Lib.hid (T2.out.trans (Tur.of_below hB4))
  obtain ⟨vb, hvb⟩ : ∃ v, v = w2.heap.size := ⟨_, rfl⟩
  rw [← hvb] at hX4 hB4 hvl ⊢
  have HVB := Lib.hid (show w.heap.size ≤ vb from hvb ▸ HS2.out)
  have HX4 := Lib.hid hX4
  clear hX4 hB4 hvl hvb HP2 HX2 T2 HS2
  have HL4 : Hid (∀ w' ks, Tur A.tg ks w4 w' → 1 ∉ ks → 0 ∉ ks → w'.cell? ⟨A.pb, 22, none⟩ = some (.pointer (some ⟨A.qb, 0, none⟩)) ∧ w'.cell? ⟨vb, 45, none⟩ = some (.int .i64 n)) := Lib.hid fun w' ks q h1 h0 =>
    ⟨cells_of_row ((HP4.out.rest q).ptr h1) 22 _ (polC_hi HP4.out 2), cells_of_row (HNI.out q h0 HVB.out HX4.out) 45 _ HL.out⟩
  refine wp_region_held_drew (S := Tur A.tg [4] w4) (by kernel_rfl) (Tur.refl _ _ _).drew (fun hHeld => ?_)
  refine wpAnyH_take (i := 0) (oi := ⟨some 23, _, _, _, _, _⟩) (v := ?_) rfl (by kernel_rfl) (by kernel_rfl) (by kernel_rfl) (fun _ _ _ h => h) (Or.inl ⟨by rfl, ?_⟩) hHeld ?_
  rotate_left
  · intro w hSw
    go_simp
    try with_reducible rfl
  try simp only [Act.put, List.setIfInBounds_toArray, List.set_cons_zero, List.set_cons_succ]
  refine wpAnyH_take (i := 1) (oi := ⟨some 24, _, _, _, _, _⟩) (v := ?_) rfl (by kernel_rfl) (by kernel_rfl) (by kernel_rfl) (fun _ _ _ h => h) (Or.inl ⟨by rfl, ?_⟩) hHeld ?_
  rotate_left
  · intro w hSw
    go_simp
    try with_reducible rfl
  try simp only [Act.put, List.setIfInBounds_toArray, List.set_cons_zero, List.set_cons_succ]
  refine wpAnyH_take (i := 2) (oi := ⟨some 25, _, _, _, _, _⟩) (v := ?_) rfl (by kernel_rfl) (by kernel_rfl) (by kernel_rfl) (fun _ _ _ h => h) (Or.inl ⟨by rfl, ?_⟩) hHeld ?_
  rotate_left
  · intro w hSw
    go_simp
    try with_reducible rfl
  try simp only [Act.put, List.setIfInBounds_toArray, List.set_cons_zero, List.set_cons_succ]
  refine wpAnyH_take (i := 3) (oi := ⟨some 26, _, _, _, _, _⟩) (v := ?_) rfl (by kernel_rfl) (by kernel_rfl) (by kernel_rfl) (fun _ _ _ h => h) (Or.inl ⟨by rfl, ?_⟩) hHeld ?_
  rotate_left
  · intro w hSw
    obtain ⟨k0, k1⟩ := HL4.out w _ hSw (by decide) (by decide)
    go_simp
    try with_reducible rfl
  try simp only [Act.put, List.setIfInBounds_toArray, List.set_cons_zero, List.set_cons_succ]
  refine wpAnyH_take (i := 4) (oi := ⟨some 27, _, _, _, _, _⟩) (v := ?_) rfl (by kernel_rfl) (by kernel_rfl) (by kernel_rfl) (fun _ _ _ h => h) (Or.inl ⟨by rfl, ?_⟩) hHeld ?_
  rotate_left
  · intro w hSw
    go_simp
    try with_reducible rfl
  try simp only [Act.put, List.setIfInBounds_toArray, List.set_cons_zero, List.set_cons_succ]
  refine wpAnyH_take (i := 5) (oi := ⟨some 28, _, _, _, _, _⟩) (v := ?_) rfl (by kernel_rfl) (by kernel_rfl) (by kernel_rfl) (fun _ _ _ h => h) (Or.inl ⟨by rfl, ?_⟩) hHeld ?_
  rotate_left
  · intro w hSw
    go_simp
    try with_reducible rfl
  try simp only [Act.put, List.setIfInBounds_toArray, List.set_cons_zero, List.set_cons_succ]
  refine wpAnyH_take (i := 6) (oi := ⟨some 29, _, _, _, _, _⟩) (v := ?_) rfl (by kernel_rfl) (by kernel_rfl) (by kernel_rfl) (fun _ _ _ h => h) (Or.inl ⟨by rfl, ?_⟩) hHeld ?_
  rotate_left
  · intro w hSw
    obtain ⟨k0, k1⟩ := HL4.out w _ hSw (by decide) (by decide)
    go_simp
    try with_reducible rfl
  try simp only [Act.put, List.setIfInBounds_toArray, List.set_cons_zero, List.set_cons_succ]
  refine wpAnyH_ready (rs := [7]) (by kernel_rfl) (by simp) ?_
  refine AllReadyH.cons rfl (fun K hK => ?_) AllReadyH.nil
  go_simp
  go_wp2_with (go_at_call 137; go_must (refine (CU.out _ HP4.out.drew).mono ?_; rintro e w7 ⟨⟨_, rfl⟩, hP7, hT7⟩))
  refine hK.out _ _ (hHeld.trans hT7) (fun hHeld => ?_)
  clear hK K
  refine wpAnyH_done (by kernel_rfl) ?_ _
  have HP5 := Lib.hid hP7
  have HX5 := Lib.hid (HNI.out hHeld (by decide) HVB.out HX4.out)
  have HR5 := Lib.hid (HNI.out hHeld (by decide) (Nat.le_refl _) HR4.out)
  have T5 : Hid (Tur A.tg [3, 4, 5, 6, 7] w w7) := Lib.hid (T4.out.trans (hHeld.sub (by simp)))
  clear hHeld hP7 hT7 HL4 HX4 HR4 HP4 T4 CU
  have hld := pkt_load HX5.out HPK.out
  go_wp2_with ((with_reducible refine arm_load 33 8 68 (.pointer (some ⟨vb, 0, none⟩)) (.agg x) hld ?_ ?_); rfl)
  refine (CN.out _ HP5.out).mono ?_
  rintro e w8 ⟨rfl, hP8, hT8⟩
  have HP8 := Lib.hid hP8
  have HX8 := Lib.hid (HNI.out hT8 (by decide) HVB.out HX5.out)
  have HR8 := Lib.hid (HNI.out hT8 (by decide) (Nat.le_refl _) HR5.out)
  have T8 : Hid (Tur A.tg [3, 4, 5, 6, 7] w w8) := Lib.hid (T5.out.trans (hT8.sub (by simp)))
  have k21 := HP8.out.c21
  clear hP8 hT8 hld HX5 HR5 HP5 T5 CN
  go_wp2_with fail
  refine (CE.out _ HP8.out).mono ?_
  rintro e w9 ⟨rfl, rfl⟩
  have fin : ∀ w10, Pol w10 A F S4 → w10.heap[vb]? = some (.cells x 68 (0, 0)) → (∃ C : Array Value, C.size = 46 ∧ w10.heap[w.heap.size]? = some (.cells C 68 (0, 0))) → Tur A.tg [3, 4, 5, 6, 7] w w10 → (w10.setCells w.heap.size 0 x.toList).heap[w.heap.size]? = some (.cells x 68 (0, 0)) ∧ Pol (w10.setCells w.heap.size 0 x.toList) A F S4 ∧ Tur A.tg [3, 4, 5, 6, 7] w (w10.setCells w.heap.size 0 x.toList) := by
    rintro w10 q - ⟨C, hC, hb⟩ t
    have p : Tur A.tg [0] w10 (w10.setCells w.heap.size 0 x.toList) := Tur.of_two (Two.setCells (g := w.heap.size) (h := w.heap.size) (.inl rfl) x.toList 0 (Two.refl _ _ w10)) (by rw [HO.out.hi _ HLI.out]; simp) (by rw [HO.out.hi _ HLI.out]; simp)
    exact ⟨box_whole hb (cs := x) (by rw [HPK.out.size, hC]), q.tur p (by intro k h1 h2; simp; omega), t.fresh (Nat.le_refl _) _ _⟩
  have FIN := Lib.hid fin
  clear fin
  by_cases hl0 : l = []
  · have hlen : l.length = 0 := by rw [hl0]; rfl
    have k23 := HP8.out.c23
    have CZ2 := Lib.hid (CZ.out hl0 _ HP8.out)
    clear hl0
    rw [hlen]
    go_wp2_with fail
    refine CZ2.out.mono ?_
    rintro e w10 ⟨rfl, hP10, hT10⟩
    have HX10 := Lib.hid (HNI.out hT10 (by decide) HVB.out HX8.out)
    have HR10 := Lib.hid (HNI.out hT10 (by decide) (Nat.le_refl _) HR8.out)
    have FI := Lib.hid (FIN.out w10 hP10 HX10.out ⟨PZ, rfl, HR10.out⟩ (T8.out.trans (hT10.sub (by simp))))
    have hld := pkt_load HX10.out HPK.out
    have hst := pkt_store HR10.out HPK.out
    clear hP10 hT10 k21 k23 CZ2
    go_wp2_with (first | ((with_reducible refine arm_load 48 8 68 (.pointer (some ⟨vb, 0, none⟩)) (.agg x) hld ?_ ?_); rfl) | ((with_reducible refine arm_store 6 48 68 (.pointer (some ⟨w.heap.size, 0, none⟩)) (.agg x) _ hst ?_ ?_ ?_); rfl; rfl))
    refine bodyPost_ret (res_row_tmp rfl _ _ _ _ _ _ _ rfl FI.out.1 Tryz.underlying68 rfl (by rw [pkt_size, HPK.out.size])) rfl ?_
    exact ⟨rfl, FI.out.2.1, FI.out.2.2⟩
  · have hlen : l.length ≠ 0 := fun e => hl0 (List.length_eq_zero_iff.1 e)
    have hP9 := HP8.out
    rw [← HEQ.out hl0] at hP9
    have FI := Lib.hid (FIN.out _ hP9 HX8.out ⟨PZ, rfl, HR8.out⟩ T8.out)
    have hld := pkt_load HX8.out HPK.out
    have hst := pkt_store HR8.out HPK.out
    obtain ⟨ll, hll⟩ : ∃ ll, ll = l.length := ⟨_, rfl⟩
    rw [← hll] at hlen ⊢
    have hlI : ((ll : Nat) : Int) ≠ 0 := by omega
    clear hP9 k21 hl0 hll
    go_wp2_with (first | ((with_reducible refine arm_load 48 8 68 (.pointer (some ⟨vb, 0, none⟩)) (.agg x) hld ?_ ?_); rfl) | ((with_reducible refine arm_store 6 48 68 (.pointer (some ⟨w.heap.size, 0, none⟩)) (.agg x) _ hst ?_ ?_ ?_); rfl; rfl))
    refine bodyPost_ret (res_row_tmp rfl _ _ _ _ _ _ _ rfl FI.out.1 Tryz.underlying68 rfl (by rw [pkt_size, HPK.out.size])) rfl ?_
    exact ⟨rfl, FI.out.2.1, FI.out.2.2⟩
end
end Go.Proofs.YtpanmfdbdgecaaaGreat.C

namespace Go.Proofs.YtpanmfdbdgecaaaGreat.C
open Go.RowKit
set_option linter.unusedVariables false
/-- A packet's flow. -/
def flowA (x : Array Value) : Array Value := x.extract 1 37
theorem fls_size {x : Array Value} (h : Pk x) : (flowA x).size = 36 := by simp [flowA, h.size]
theorem fls_at {x : Array Value} (h : Pk x) {j : Nat} (hj : j < 36) : (flowA x)[j]? = x[1 + j]? := by
  unfold flowA
  rw [Array.getElem?_extract, if_pos (by rw [h.size]; omega)]
theorem fls_one {x : Array Value} (h : Pk x) : ∀ u ∈ (flowA x).toList, u.oneCell' = true := by
  intro u hu
  obtain ⟨j, hj⟩ := List.getElem?_of_mem hu
  have hj' := (List.getElem?_eq_some_iff.1 hj).1
  rw [Array.length_toList, fls_size h] at hj'
  rw [Array.getElem?_toList, fls_at h hj'] at hj
  exact Array.all_eq_true_iff_forall_mem.1 h.one u (Array.mem_of_getElem? hj)
theorem fls_info : (Tryz.prog.info? 58).map (fun i => (i.zero, i.size, i.bytes)) = some (some (.agg (flowA PZ)), 36, 38) := by kernel_rfl
theorem fls_sz : (Tryz.prog.info? 58).map (·.size) = some 36 := by kernel_rfl
theorem fls_desc : ∃ d, Tryz.prog.underlying 58 = some d ∧ d.isRow = true := ⟨_, Tryz.underlying58, rfl⟩
theorem fls_load {w : World} {b : Nat} {x : Array Value} {t : TypeId} (h : w.heap[b]? = some (.cells x t (0, 0))) (hx : Pk x) : (Instr.loadAt 58 (.pointer (some ⟨b, 1, none⟩))).run Tryz.prog w = .ok (.agg (flowA x)) w := by
  obtain ⟨d, hd1, hd2⟩ := fls_desc
  have := run_loadAt_mid (P := Tryz.prog) w b 1 58 (flowA x).toList d (range_of_block h fun j v hv => by
    have hj := (List.getElem?_eq_some_iff.1 hv).1
    rw [Array.length_toList, fls_size hx] at hj
    rw [Array.getElem?_toList, fls_at hx hj] at hv
    exact hv) hd1 hd2 (by rw [fls_sz, Array.length_toList, fls_size hx])
  simpa using this
/-- Flows, as cells. -/
def flowsL (l : List (Array Value)) : List Value := (l.map fun x => (flowA x).toList).flatten
theorem flowsL_snoc (l : List (Array Value)) (x : Array Value) : flowsL l ++ (flowA x).toList = flowsL (l ++ [x]) := by simp [flowsL]
theorem flowsL_at {l : List (Array Value)} (h : ∀ x ∈ l, Pk x) {k j : Nat} {x : Array Value} (hx : l[k]? = some x) (hj : j < 36) : (flowsL l)[k * 36 + j]? = (flowA x)[j]? := by
  unfold flowsL
  rw [flat_at _ (fun c hc => by obtain ⟨x, hx, rfl⟩ := List.mem_map.1 hc; simpa using fls_size (h x hx)) k j (flowA x).toList (by simp [hx]) hj]
  simp
/-- A class's packets. -/
def clsS (L : List (List (Array Value))) (c : Int) : List (Array Value) := if 0 ≤ c then L.getD c.toNat [] else []
theorem clsS_some {L : List (List (Array Value))} {c : Nat} {l : List (Array Value)} (hl : L[c]? = some l) : clsS L (c : Nat) = l := by
  unfold clsS
  rw [if_pos (by omega), Int.toNat_natCast, List.getD_eq_getElem?_getD, hl]
  rfl
theorem clsS_out {L : List (List (Array Value))} {c : Int} (h : ¬ (0 ≤ c ∧ c < L.length)) : clsS L c = [] := by
  unfold clsS
  by_cases h0 : 0 ≤ c
  · rw [if_pos h0, List.getD_eq_getElem?_getD, List.getElem?_eq_none (by omega)]
    rfl
  · rw [if_neg h0]
theorem clsS_at {L : List (List (Array Value))} (c : Int) (k : Nat) : atS L c (k : Nat) = (clsS L c)[k]? := by
  by_cases hc : 0 ≤ c ∧ c < L.length
  · obtain ⟨c, rfl⟩ := Int.eq_ofNat_of_zero_le hc.1
    obtain ⟨l, hl⟩ : ∃ l, L[c]? = some l := ⟨_, List.getElem?_eq_getElem (by omega)⟩
    rw [clsS_some hl, atS_some hl]
  · rw [clsS_out hc]
    unfold atS
    by_cases h0 : 0 ≤ c
    · rw [if_pos (by omega), List.getElem?_eq_none (by omega)]
      simp
    · rw [if_neg (by omega)]
      simp
section
variable {w : World} {a : Adr} {L : List (List (Array Value))} {R : Nat}
theorem st_len_any (c : Int) (h : Sto w a L R) :
    Calls Tryz.prog 43 #[.pointer (some ⟨a.sb, 0, none⟩), .int .i64 c] w fun e w' => e = .returned (.int .i64 ((clsS L c).length : Nat)) ∧ w' = w := by
  by_cases hc : 0 ≤ c ∧ c < L.length
  · obtain ⟨c, rfl⟩ := Int.eq_ofNat_of_zero_le hc.1
    obtain ⟨l, hl⟩ : ∃ l, L[c]? = some l := ⟨_, List.getElem?_eq_getElem (by omega)⟩
    rw [clsS_some hl]
    exact st_len c l h hl
  · rw [clsS_out hc]
    exact st_len_no c h hc
theorem cls_len (c : Int) (h : Sto w a L R) : (clsS L c).length ≤ 4096 ∧ ∀ x ∈ clsS L c, Pk x ∧ x[45]? = some (.int .i64 (lenP x)) ∧ 1 ≤ lenP x ∧ lenP x ≤ 9216 := by
  refine ⟨?_, fun x hx => ?_⟩
  · by_cases hc : 0 ≤ c ∧ c < L.length
    · obtain ⟨c, rfl⟩ := Int.eq_ofNat_of_zero_le hc.1
      obtain ⟨l, hl⟩ : ∃ l, L[c]? = some l := ⟨_, List.getElem?_eq_getElem (by omega)⟩
      rw [clsS_some hl]
      obtain ⟨A, fl, Q, hS⟩ := h
      have := total_le L l (List.mem_of_getElem? hl)
      have := hS.len
      omega
    · rw [clsS_out hc]
      simp
  · obtain ⟨k, hk⟩ := List.getElem?_of_mem hx
    rw [← clsS_at] at hk
    exact atS_pk h hk
set_option maxRecDepth 100000 in
set_option maxHeartbeats 1000000 in
theorem st_flows (c : Int) (h : Sto w a L R) :
    Calls Tryz.prog 78 #[.pointer (some ⟨a.sb, 0, none⟩), .int .i64 c] w fun e w' => ∃ v, e = .returned v ∧ w'.ownsRow w.heap.size 58 36 v (clsS L c).length (flowsL (clsS L c)) ∧ Below w.heap.size w w' := by
  obtain ⟨i0, hi, hz0, hz1, hz2⟩ := info_parts fls_info
  have Hi := Lib.hid hi
  have Hz0 := Lib.hid hz0
  have Hz1 := Lib.hid hz1
  have Hz2 := Lib.hid hz2
  obtain ⟨hl4, hpk⟩ := cls_len c h
  have CL := Lib.hid (st_len_any c h)
  have CA := Lib.hid (fun (k : Nat) w' (hs : Sto w' a L R) => st_at c (k : Nat) hs)
  simp only [clsS_at] at CA
  have HS := Lib.hid h
  have HPK := Lib.hid hpk
  clear hi hz0 hz1 hz2 h hpk
  generalize clsS L c = l at *
  generalize hll : l.length = n at *
  have HLL := Lib.hid hll
  clear hll
  go_enter Tryz.func78, Tryz.ntmps78
  go_wp2_with fail
  refine CL.out.mono ?_
  rintro e w1 ⟨rfl, hw⟩
  subst hw
  clear CL
  go_wp2_with fail
  go_loopw [5, 12] (fun s t wr => ∃ k : Nat, k ≤ n ∧ t = .int .i64 k ∧ wr.ownsRow w1.heap.size 58 36 s k (flowsL (l.take k)) ∧ Sto wr a L R ∧ Below w1.heap.size w1 wr) (fun _ t _ => n - (intOf t).toNat)
  case atStart => exact ⟨0, by omega, rfl, World.ownsRow_nil _ _ _ _, HS.out, Below.refl _ _⟩
  case round =>
    obtain ⟨k, hk, rfl, hown, hS, hB⟩ := hrel
    by_cases hlt : k < n
    · obtain ⟨x, hx⟩ : ∃ x, l[k]? = some x := ⟨_, List.getElem?_eq_getElem (by have := HLL.out; omega)⟩
      have CA1 := Lib.hid (CA.out k wr hS)
      rw [hx] at CA1
      have HX := Lib.hid hx
      have HPX := Lib.hid (HPK.out x (List.mem_of_getElem? hx)).1
      have HOWN := Lib.hid hown
      have HS1 := Lib.hid hS
      have HB1 := Lib.hid hB
      have hkI : (k : Int) < (n : Int) := by omega
      clear hx hown hS hB
      go_wp2_with fail
      refine CA1.out.mono ?_
      rintro e w2 ⟨rfl, hB2⟩
      simp only [Option.getD_some, Option.isSome_some]
      have HOWN2 := Lib.hid (OW.below HOWN.out hB2)
      have HS2 := Lib.hid (HS1.out.below hB2)
      have HB2 := Lib.hid (HB1.out.trans (hB2.mono HB1.out.size))
      clear CA1 HOWN HS1 HB1 hB2
      go_upto_region 6 with (first
        | ((with_reducible refine arm_alloc 7 68 PZ 46 pz_zero ?_); intro w3 HB3 HX3 HS3; have hst := pkt_store HX3.out HPX.out)
        | ((with_reducible refine arm_store 7 20 68 (.pointer (some ⟨w2.heap.size, 0, none⟩)) (.agg x) _ hst ?_ ?_ ?_); rfl; rfl))
      have hbx := box_whole HX3.out (cs := x) HPX.out.size
      have hB4 := below_setCells (b := w2.heap.size) (Nat.le_refl _) x.toList 0 HB3.out
      have HOWN4 := Lib.hid (OW.below HOWN2.out hB4)
      have HS4 := Lib.hid (HS2.out.below hB4)
      have HB4 := Lib.hid (HB2.out.trans (hB4.mono HB2.out.size))
      clear hst hB4 HOWN2 HS2 HB2 HB3 HX3 HS3
      generalize w3.setCells w2.heap.size 0 x.toList = w4 at *
      generalize w2.heap.size = b7 at *
      have hld := fls_load hbx HPX.out
      have hsz4 := HB4.out.size
      have HFS := Lib.hid (fls_size HPX.out)
      have HFO := Lib.hid (fls_one HPX.out)
      clear hbx
      go_wp2_with (first
        | ((with_reducible refine arm_load 24 23 58 (.pointer (some ⟨b7, 1, none⟩)) (.agg (flowA x)) hld ?_ ?_); rfl)
        | ((with_reducible refine wpList_buildSlice_one 25 24 215 58 (flowA x) 36 ?_ ?_ ?_ ?_ ?_ ?_ ?_ ?_); rfl; exact Tryz.underlying215; exact fls_sz; (exact ⟨.agg (flowA PZ), by rw [Hi.out]; simp [Hz0.out]⟩); omega; omega; (exact HFS.out))
        | (at_builtin; go_must (refine wpList_append_own_at _ rfl (.tmp 22) (.tmp 25) 215 rfl w1.heap.size 58 i0 (.agg (flowA PZ)) 36 38 Tryz.underlying215 Hi.out Hz0.out Hz1.out Hz2.out rfl (by omega) u5 k (flowsL (l.take k)) rfl (by exact World.ownsRow.alloc (w := w4) HOWN4.out _) ⟨w4.heap.size, 0, none⟩ 1 1 (flowA x).toList rfl ?_ ?_ HFO.out ?_ ?_ ?_ ?_)))
      · rw [Array.length_toList, HFS.out]
      · intro j u hu
        rw [OW.addr_off, Nat.zero_add, cell_of_row _ _ _ _ _ _ (Go.heap_alloc_new w4 _)]
        simpa using hu
      · simp only [maxLen]; omega
      · omega
      · simp; omega
      · intro v' w' hown' hg _ hat
        have hB' : Below w1.heap.size w1 w' := (HB4.out.alloc hsz4 (.cells (flowA x) 58)).grown hg (by simp; omega) (fun q hq => (World.ownsRow.lt HOWN4.out q hq).1)
        have hB5 : ∀ q, q < w4.heap.size → some q ≠ u5.ownBlock → w'.heap[q]? = w4.heap[q]? := fun q hq hne => by
          rw [hg.block q (by simp; omega) hne, Go.heap_alloc_old _ _ hq]
        have hS' : Sto w' a L R := HS.out.below hB'
        have hown2 : w'.ownsRow w1.heap.size 58 36 v' (k + 1) (flowsL (l.take (k + 1))) := by
          have hkl := lt_of_some HX.out
          have e : l.take (k + 1) = l.take k ++ [x] := by
            rw [List.take_succ_eq_append_getElem hkl]
            have := HX.out
            rw [List.getElem?_eq_getElem hkl] at this
            injection this with this
            rw [this]
          rw [e, ← flowsL_snoc]
          exact hown'
        have HO := Lib.hid hown2
        have HS' := Lib.hid hS'
        have HB' := Lib.hid hB'
        clear hown' hg hat hB' hB5 hS' hown2 hld
        go_wp2
        go_roundw
        case rel => exact ⟨k + 1, by omega, by go_num, HO.out, HS'.out, HB'.out⟩
        case measure => simp [intOf]; omega
    · obtain rfl : k = n := by omega
      have e : l.take k = l := List.take_of_length_le (by have := HLL.out; omega)
      rw [e] at hown
      have HO := Lib.hid hown
      have HB' := Lib.hid hB
      clear hown hS hB e
      go_wp2
      go_ret
      exact ⟨_, rfl, HO.out, HB'.out⟩
end
end Go.Proofs.YtpanmfdbdgecaaaGreat.C

namespace Go.Proofs.YtpanmfdbdgecaaaGreat.C
open Go.RowKit
set_option linter.unusedVariables false
theorem lit_arr16 (a b c d : Nat) (ha : a < 256) (hb : b < 256) (hc : c < 256) (hd : d < 256) : Tryz.prog.keyLits 2 22 [.int .u8 (a : Nat), .int .u8 (b : Nat), .int .u8 (c : Nat), .int .u8 (d : Nat), .int .u8 0, .int .u8 0, .int .u8 0, .int .u8 0, .int .u8 0, .int .u8 0, .int .u8 0, .int .u8 0, .int .u8 0, .int .u8 0, .int .u8 0, .int .u8 0] = some [.int .u8 (a : Nat), .int .u8 (b : Nat), .int .u8 (c : Nat), .int .u8 (d : Nat), .int .u8 0, .int .u8 0, .int .u8 0, .int .u8 0, .int .u8 0, .int .u8 0, .int .u8 0, .int .u8 0, .int .u8 0, .int .u8 0, .int .u8 0, .int .u8 0] := by
  have e2 : Tryz.prog.cellsOf 22 = 16 := by kernel_rfl
  have e3 : Tryz.prog.cellsOf 5 = 1 := by kernel_rfl
  have la := lit_u8 a ha
  have lb := lit_u8 b hb
  have lc := lit_u8 c hc
  have ld := lit_u8 d hd
  have z' : Tryz.prog.keyLits 1 5 [.int .u8 0] = some [.int .u8 0] := lit_u8 0 (by omega)
  unfold Program.keyLits
  simp [Tryz.underlying22, e2, e3, la, lb, lc, ld, z', show List.range 16 = [0, 1, 2, 3, 4, 5, 6, 7, 8, 9, 10, 11, 12, 13, 14, 15] from rfl]
theorem lit_flow (n : Nat) (hn : n < 256) : ∃ L, Tryz.prog.keyLits 3 58 (flowX 10 1 n 7 9 0 0 0 1000 53).toList = some L := by
  have e1 : Tryz.prog.cellsOf 58 = 36 := by kernel_rfl
  have e2 : Tryz.prog.cellsOf 22 = 16 := by kernel_rfl
  have e3 : Tryz.prog.cellsOf 5 = 1 := by kernel_rfl
  have e4 : Tryz.prog.cellsOf 4 = 1 := by kernel_rfl
  have e5 : Tryz.prog.cellsOf 31 = 1 := by kernel_rfl
  have ks : Tryz.prog.keyLits 2 22 [.int .u8 10, .int .u8 1, .int .u8 (n : Nat), .int .u8 7, .int .u8 0, .int .u8 0, .int .u8 0, .int .u8 0, .int .u8 0, .int .u8 0, .int .u8 0, .int .u8 0, .int .u8 0, .int .u8 0, .int .u8 0, .int .u8 0] = some [.int .u8 10, .int .u8 1, .int .u8 (n : Nat), .int .u8 7, .int .u8 0, .int .u8 0, .int .u8 0, .int .u8 0, .int .u8 0, .int .u8 0, .int .u8 0, .int .u8 0, .int .u8 0, .int .u8 0, .int .u8 0, .int .u8 0] := lit_arr16 10 1 n 7 (by decide) (by decide) hn (by decide)
  have kd : Tryz.prog.keyLits 2 22 [.int .u8 9, .int .u8 0, .int .u8 0, .int .u8 0, .int .u8 0, .int .u8 0, .int .u8 0, .int .u8 0, .int .u8 0, .int .u8 0, .int .u8 0, .int .u8 0, .int .u8 0, .int .u8 0, .int .u8 0, .int .u8 0] = some [.int .u8 9, .int .u8 0, .int .u8 0, .int .u8 0, .int .u8 0, .int .u8 0, .int .u8 0, .int .u8 0, .int .u8 0, .int .u8 0, .int .u8 0, .int .u8 0, .int .u8 0, .int .u8 0, .int .u8 0, .int .u8 0] := lit_arr16 9 0 0 0 (by decide) (by decide) (by decide) (by decide)
  have k4 : Tryz.prog.keyLits 2 4 [.bool false] = some [.bool false] := by simp [Program.keyLits, Tryz.underlying4]
  have k5 : Tryz.prog.keyLits 2 5 [.int .u8 17] = some [.int .u8 17] := by
    have hw : (Lit.int .u8 17).wf = true := by decide
    simp [Program.keyLits, Tryz.underlying5, hw]
  have k6 : Tryz.prog.keyLits 2 31 [.int .u16 1000] = some [.int .u16 1000] := by
    have hw : (Lit.int .u16 1000).wf = true := by decide
    simp [Program.keyLits, Tryz.underlying31, hw]
  have k7 : Tryz.prog.keyLits 2 31 [.int .u16 53] = some [.int .u16 53] := by
    have hw : (Lit.int .u16 53).wf = true := by decide
    simp [Program.keyLits, Tryz.underlying31, hw]
  have hx : (flowX 10 1 n 7 9 0 0 0 1000 53).toList = [.bool false, .int .u8 17, .int .u8 10, .int .u8 1, .int .u8 (n : Nat), .int .u8 7, .int .u8 0, .int .u8 0, .int .u8 0, .int .u8 0, .int .u8 0, .int .u8 0, .int .u8 0, .int .u8 0, .int .u8 0, .int .u8 0, .int .u8 0, .int .u8 0, .int .u8 9, .int .u8 0, .int .u8 0, .int .u8 0, .int .u8 0, .int .u8 0, .int .u8 0, .int .u8 0, .int .u8 0, .int .u8 0, .int .u8 0, .int .u8 0, .int .u8 0, .int .u8 0, .int .u8 0, .int .u8 0, .int .u16 1000, .int .u16 53] := by kernel_rfl
  rw [hx]
  unfold Program.keyLits
  simp only [Tryz.underlying58]
  simp [e1, e2, e3, e4, e5, ks, kd, k4, k5, k6, k7]
theorem flow_flat (n : Nat) (hn : n < 256) : Flat Tryz.prog 58 (flowX 10 1 n 7 9 0 0 0 1000 53) := by
  obtain ⟨L, hL⟩ := lit_flow n hn
  exact ⟨3, L, by kernel_rfl, by kernel_rfl, by decide, by kernel_rfl, by kernel_rfl, hL⟩
theorem flow_guard : Tryz.prog.eqGuardType Tryz.prog.depth 58 = false := by kernel_rfl
theorem pick_no (d n : Int) (w : World) (h : n < 1) : Calls Tryz.prog 135 #[.int .u64 d, .int .i64 n] w fun e w' => e = .returned (.tuple #[.int .i64 0, .bool false]) ∧ w' = w := by
  go_enter Tryz.func135, Tryz.ntmps135
  go_wp2
  go_ret2
  exact ⟨rfl, rfl⟩
theorem pick_yes (d n k : Nat) (w : World) (h : 1 ≤ n) (h2 : n ≤ 4096) (hk : d % n = k) : Calls Tryz.prog 135 #[.int .u64 (d : Nat), .int .i64 (n : Nat)] w fun e w' => e = .returned (.tuple #[.int .i64 (k : Nat), .bool true]) ∧ w' = w := by
  have hm := Int.emod_lt_of_pos (d : Int) (show 0 < (n : Int) by omega)
  have hm0 := Int.emod_nonneg (d : Int) (show (n : Int) ≠ 0 by omega)
  have hkI : (d : Int).tmod (n : Int) = (k : Int) := by
    rw [Int.tmod_eq_emod_of_nonneg (by omega), ← Int.natCast_emod, hk]
  have hkn : k < n := by rw [← hk]; exact Nat.mod_lt _ (by omega)
  have hw1 : IntKind.u64.wrap (n : Int) = (n : Int) := IntWalk.u64_in _ (by omega)
  have hw2 : IntKind.i64.wrap (k : Int) = (k : Int) := IntWalk.i64_in _ (by omega)
  have hn0 : ¬ ((n : Int) = 0) := by omega
  have hn1 : ¬ ((n : Int) < 1) := by omega
  have hnz : n ≠ 0 := by omega
  clear hk hm hm0
  go_enter Tryz.func135, Tryz.ntmps135
  go_wp2
  go_ret2
  exact ⟨rfl, rfl⟩
theorem match_none (d : Nat) (cap : Nat) (a : Option Addr) (fs : Array Value) (w : World) : Calls Tryz.prog 77 #[.int .u64 (d : Nat), .slice a 0 cap, .agg fs] w fun e w' => e = .returned (.tuple #[.int .i64 0, .bool false]) ∧ Below w.heap.size w w' := by
  have C := Lib.hid (fun w' => pick_no (d : Nat) 0 w' (by omega))
  go_enter Tryz.func77, Tryz.ntmps77
  go_upto_region 1 with ((with_reducible refine arm_box 5 2 58 fs ?_ ?_); rfl; intro w1 HB HX HS)
  go_wp2_with fail
  refine (C.out _).mono ?_
  rintro e w2 ⟨rfl, hw⟩
  replace hw := hw.symm
  subst hw
  go_wp2_with fail
  go_quiet (fail)
  go_wp2
  go_ret2
  exact ⟨rfl, below_drewN HB.out _⟩
theorem match_some (q : Bool) (d len cap k g : Nat) (fs Fk : Array Value) (w : World) (h0 : 1 ≤ len) (hl : len ≤ 4096) (hk : d % len = k) (hg : g < w.heap.size) (hfs : Flat Tryz.prog 58 fs) (hq : eqA Fk fs = q) (hFk : Flat Tryz.prog 58 Fk) (hLk : Laid w ⟨g, k * 36, none⟩ Fk) :
    Calls Tryz.prog 77 #[.int .u64 (d : Nat), .slice (some ⟨g, 0, none⟩) len cap, .agg fs] w fun e w' => e = .returned (.tuple #[.int .i64 (if q then (k : Int) else 0), .bool q]) ∧ Below w.heap.size w w' := by
  have hk1 : k < len := by rw [← hk]; exact Nat.mod_lt _ (by omega)
  have C := Lib.hid (fun w' => pick_yes d len k w' h0 hl hk)
  have hfz : fs.size = 36 := hfs.size.trans (by kernel_rfl)
  have hFz : Fk.size = 36 := hFk.size.trans (by kernel_rfl)
  have HQ := Lib.hid hq
  have HFS := Lib.hid hfs
  have HFK := Lib.hid hFk
  have HLK := Lib.hid hLk
  have hkI : (k : Int) < (len : Int) := by omega
  clear hk hq hfs hFk hLk
  go_enter Tryz.func77, Tryz.ntmps77
  go_upto_region 1 with ((with_reducible refine arm_box 5 2 58 fs ?_ ?_); rfl; intro w1 HB HX HS)
  have hLk1 := HLK.out.below HB.out hg
  have hLf : Laid w1 ⟨w.heap.size, 0, none⟩ fs := fun j v hv => by rw [OW.addr_off, Nat.zero_add]; exact cells_of_row HX.out j v hv
  have HL1 := Lib.hid hLk1
  have HL2 := Lib.hid hLf
  clear hLk1 hLf HLK
  go_wp2_with fail
  refine (C.out _).mono ?_
  rintro e w2 ⟨rfl, hw⟩
  replace hw := hw.symm
  subst hw
  clear C
  go_wp2_with fail
  refine wp_region_quiet_lit (by kernel_rfl) (by kernel_rfl) ?_
  repeat (first
    | (go_big_quiet_step (fail))
    | (go_big_quiet_want; refine quiet_load rfl _ rfl Fk (by kernel_rfl) (by rw [hFz]; kernel_rfl) (by rintro _ ⟨n, rfl⟩; exact HL1.out.drewN n) ?_; go_big_quiet_on; go_frame)
    | (go_big_quiet_want; refine quiet_load rfl _ rfl fs (by kernel_rfl) (by rw [hfz]; kernel_rfl) (by rintro _ ⟨n, rfl⟩; exact HL2.out.drewN n) ?_; go_big_quiet_on; go_frame)
    | (go_big_quiet_want; refine quiet_neq rfl Fk fs rfl rfl HFK.out HFS.out flow_guard ?_; go_big_quiet_on; go_frame))
  refine wpQuiet_nil ?_
  rintro _ ⟨nq, rfl⟩
  rw [HQ.out]
  clear HQ
  cases q
  all_goals
    go_wp2
    go_ret2
    exact ⟨rfl, below_drewN HB.out _⟩
/-- A packet of a number's flow. -/
def FlP (x : Array Value) : Prop := ∃ m, m < 256 ∧ PkF x (flowX 10 1 m 7 9 0 0 0 1000 53)
theorem choke_match (d nn n base : Nat) (v : Value) (l : List (Array Value)) (w : World) (hown : w.ownsRow base 58 36 v n (flowsL l)) (hl : l.length = n) (hn : n ≤ 4096) (hp : ∀ x ∈ l, Pk x ∧ FlP x) (hnn : nn < 256) :
    Calls Tryz.prog 77 #[.int .u64 (d : Nat), v, .agg (flowX 10 1 nn 7 9 0 0 0 1000 53)] w fun e w' => ∃ (k : Nat) (ok : Bool), e = .returned (.tuple #[.int .i64 (k : Nat), .bool ok]) ∧ (ok = true → k < n) ∧ Below w.heap.size w w' := by
  rcases Nat.eq_zero_or_pos n with h0 | h0
  · subst h0
    obtain ⟨a, c, rfl⟩ := OW.slice hown
    refine (match_none d c a _ w).mono ?_
    rintro e w' ⟨rfl, hB⟩
    exact ⟨0, false, rfl, (fun h => Bool.noConfusion h), hB⟩
  · obtain ⟨k, hk⟩ : ∃ k, d % n = k := ⟨_, rfl⟩
    have hkn : k < n := by rw [← hk]; exact Nat.mod_lt _ h0
    obtain ⟨x, hx⟩ : ∃ x, l[k]? = some x := ⟨_, List.getElem?_eq_getElem (by omega)⟩
    obtain ⟨hpx, m, hm, hfx⟩ := hp x (List.mem_of_getElem? hx)
    rcases hown.2 with ⟨_, h1⟩ | ⟨g, cap, cur, rfl, h2, h3, h4⟩
    · omega
    · have hfl : flowA x = flowX 10 1 m 7 9 0 0 0 1000 53 := hfx
      have hL : Laid w ⟨g, k * 36, none⟩ (flowX 10 1 m 7 9 0 0 0 1000 53) := fun j u hu => by
        have hj : j < 36 := (Array.getElem?_eq_some_iff.1 hu).1
        have := hown.cells (g := g) rfl (k * 36 + j) u (by rw [flowsL_at (fun y hy => (hp y hy).1) hx hj, hfl]; exact hu)
        rw [OW.addr_off, Nat.zero_add] at this
        rw [OW.addr_off]
        exact this
      refine (match_some (eqA (flowX 10 1 m 7 9 0 0 0 1000 53) (flowX 10 1 nn 7 9 0 0 0 1000 53)) d n cap k g _ _ w h0 hn hk (Array.getElem?_eq_some_iff.1 h3).1 (flow_flat nn hnn) rfl (flow_flat m hm) hL).mono ?_
      rintro e w' ⟨rfl, hB⟩
      refine ⟨if eqA (flowX 10 1 m 7 9 0 0 0 1000 53) (flowX 10 1 nn 7 9 0 0 0 1000 53) then k else 0, _, ?_, fun h => by rw [if_pos h]; exact hkn, hB⟩
      split <;> rfl
end Go.Proofs.YtpanmfdbdgecaaaGreat.C
